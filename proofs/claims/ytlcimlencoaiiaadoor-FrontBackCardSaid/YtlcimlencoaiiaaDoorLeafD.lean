/-
  Rows whose cells are overwritten: what lies elsewhere is kept.
-/
import Derived.Test.YtlcimlencoaiiaaDoorLeaf6
import Derived.Test.YtlcimlencoaiiaaDoorLeaf7
set_option linter.unusedVariables false
set_option maxRecDepth 100000
set_option linter.unusedSimpArgs false
namespace Go.Proofs.YtlcimlencoaiiaaDoor
open Go.RowKit

theorem setCells_keep {S : Nat → Prop} {a : World} {g : Nat} (hg : ¬ S g) : ∀ (vs : List Value) (o : Nat) (w : World), Keep S a w → Keep S a (w.setCells g o vs)
  | [], _, _, h => h
  | v :: vs, o, w, h => setCells_keep hg vs (o + 1) _ (h.setCell (p := ⟨g, o, none⟩) hg v)
theorem Keep.cell {S : Nat → Prop} {w w' : World} (h : Keep S w w') {b o : Nat} {v : Value} (hb : b < w.heap.size) (hS : S b) (hc : w.cell? ⟨b, o, none⟩ = some v) : w'.cell? ⟨b, o, none⟩ = some v :=
  (World.cell?_of_block (h.block b hb hS)).trans hc
theorem OwnS.keep {S : Nat → Prop} {w w' : World} {base : Nat} {v : Value} {l : List (List UInt8)} (h : OwnS w base v l) (hb : Keep S w w') (hS : l ≠ [] → S (blockOf_ v)) : OwnS w' base v l := by
  obtain ⟨A, cap, rfl, h2, h3, h4, h5⟩ := h
  refine ⟨A, cap, rfl, h2, h3, h4, fun hl => ?_⟩
  obtain ⟨e1, e2⟩ := h5 hl
  refine ⟨e1, e2.imp id ?_⟩
  rintro ⟨g, c, cur, a1, a2, a3, a4⟩
  have hs := hS hl
  rw [a1] at hs
  exact ⟨g, c, cur, a1, a2, (hb.block g (Array.getElem?_eq_some_iff.1 a3).1 hs).trans a3, a4⟩
theorem OwnS.len {w : World} {base : Nat} {v : Value} {l : List (List UInt8)} (h : OwnS w base v l) : slLen v = l.length := by
  obtain ⟨A, cap, rfl, _⟩ := h
  rfl
theorem OwnS.own {w : World} {base : Nat} {v : Value} {l : List (List UInt8)} (h : OwnS w base v l) (hl : l ≠ []) : w.ownsRow base 23 32 v l.length (flatS l) := by
  obtain ⟨A, cap, rfl, _, _, _, h5⟩ := h
  exact h5 hl
theorem OwnS.block {w : World} {base : Nat} {v : Value} {l : List (List UInt8)} (h : OwnS w base v l) (hl : l ≠ []) : base ≤ blockOf_ v ∧ blockOf_ v < w.heap.size :=
  own_block (h.own hl) (List.length_pos_iff.2 hl)
theorem OwnS.there {w : World} {base n cap : Nat} {A : Option Addr} {l : List (List UInt8)} (h : OwnS w base (.slice A n cap) l) (hl : l ≠ []) : ∃ g, A = some ⟨g, 0, none⟩ ∧ w.there g 0 (l.length * 32) := by
  have hp := List.length_pos_iff.2 hl
  rcases (h.own hl).2 with ⟨_, h0⟩ | ⟨g, c, cur, a1, a2, a3, a4, a5, a6, a7⟩
  · omega
  · refine ⟨g, (by injection a1), fun j hj => ?_⟩
    have hj2 : j < cur.size := by rw [a6]; omega
    constructor
    · simp [World.cell?, a3, hj2]
    · simp [World.frozen?, a3]
theorem SlS.keep {S : Nat → Prop} {w w' : World} {B : Nat} {v : Value} {l : List (List UInt8)} (h : SlS w B v l) (hb : Keep S w w') (hB : B ≤ w.heap.size) (hS : ∀ k, k < B → S k) : SlS w' B v l := by
  obtain ⟨A, cap, h1, h2, h3, h4, h5⟩ := h
  exact ⟨A, cap, h1, h2, h3, h4, h5.kept hb hB hS⟩
theorem Rows_.at {w : World} {base : Nat} {vs : List Value} {ls : List (List (List UInt8))} (h : Rows_ w base vs ls) {j : Nat} {v : Value} (hj : vs[j]? = some v) : ∃ l, ls[j]? = some l ∧ OwnS w base v l := by
  obtain ⟨h1, rfl⟩ := List.getElem?_eq_some_iff.1 hj
  have h2 : j < ls.length := by rw [← h.length]; exact h1
  exact ⟨_, List.getElem?_eq_getElem h2, h.own j h1 h2⟩
theorem len_ne {l : List (List UInt8)} (h : l.length ≠ 0) : l ≠ [] := fun e => h (by rw [e]; rfl)

/-- The block is no row's of those ahead of i. -/
def Safe (vs : List Value) (i g : Nat) : Prop := ∀ j v, vs[j]? = some v → j < i → slLen v ≠ 0 → blockOf_ v ≠ g
theorem Safe.mono {vs : List Value} {i j g : Nat} (h : Safe vs i g) (hj : j ≤ i) : Safe vs j g := fun k v hk hlt => h k v hk (by omega)
theorem Safe.not {vs : List Value} {i : Nat} {v : Value} (hv : vs[i]? = some v) (hn : slLen v ≠ 0) : ¬ Safe vs (i + 1) (blockOf_ v) := fun h => h i v hv (by omega) hn rfl
theorem Safe.sep {vs : List Value} (h : Sep_ vs) {i : Nat} {v : Value} (hv : vs[i]? = some v) : Safe vs i (blockOf_ v) := fun j u hu hj _ => by
  obtain ⟨h1, rfl⟩ := List.getElem?_eq_some_iff.1 hv
  obtain ⟨h2, rfl⟩ := List.getElem?_eq_some_iff.1 hu
  exact Nat.ne_of_lt (List.pairwise_iff_getElem.1 h j i h2 h1 hj)
theorem Safe.low {w : World} {base : Nat} {vs : List Value} {ls : List (List (List UInt8))} (h : Rows_ w base vs ls) (i g : Nat) (hg : g < base) : Safe vs i g := fun j v hv _ hn => by
  obtain ⟨l, _, ho⟩ := h.at hv
  rw [ho.len] at hn
  have := (ho.block (len_ne hn)).1
  omega
theorem Safe.high {w : World} {base : Nat} {vs : List Value} {ls : List (List (List UInt8))} (h : Rows_ w base vs ls) (i g : Nat) (hg : w.heap.size ≤ g) : Safe vs i g := fun j v hv _ hn => by
  obtain ⟨l, _, ho⟩ := h.at hv
  rw [ho.len] at hn
  have := (ho.block (len_ne hn)).2
  omega
theorem Safe.outer {w : World} {base base' n n' size c bo oo : Nat} {e : TypeId} {xs : List Value} {vs : List Value} {ls : List (List (List UInt8))} (h : Rows_ w base vs ls) (ho : w.ownsRow base' e size (.slice (some ⟨bo, oo, none⟩) n c) n' xs) (hne : 23 ≠ e) (i : Nat) : Safe vs i bo := fun j v hv _ hn => by
  obtain ⟨l, _, hr⟩ := h.at hv
  rw [hr.len] at hn
  have hl := len_ne hn
  rcases own_ne (hr.own hl) ho hne with h0 | h0
  · rcases (hr.own hl).2 with ⟨_, h1⟩ | ⟨g, cap, cur, rfl, _⟩
    · exact absurd h1 hn
    · cases h0
  · rcases (hr.own hl).2 with ⟨_, h1⟩ | ⟨g, cap, cur, rfl, _⟩
    · exact absurd h1 hn
    · intro e1
      exact h0 (congrArg some e1)

end Go.Proofs.YtlcimlencoaiiaaDoor
