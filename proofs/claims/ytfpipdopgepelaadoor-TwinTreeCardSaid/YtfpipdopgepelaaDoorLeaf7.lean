/-
  The walk of the document's Levels.
-/
import Derived.Test.YtfpipdopgepelaaDoorLeafA
import Derived.Laws.AppendOwnNone
set_option linter.unusedVariables false
set_option maxRecDepth 100000
set_option linter.unusedSimpArgs false
namespace Go.Proofs.YtfpipdopgepelaaDoor
open Go.RowKit
attribute [local go_sem] bs_size bs_toList2 bs_append bs_extract_end bs_extract_begin bs_get wrap64_b grow_cell grow_frozen

/-- append(nil, l...). -/
theorem append_sls {ops : Array Oper} {rest : List Oper} {o : Oper} {a : Act} {w : World} {Q : Exit → Act → World → Prop} (hgd : o.guard = none) (s x : Operand) (ho : o.op = .call { callee := .builtin .append, args := #[s, x], argTypes := #[25, 25] })
    (v : Value) (l : List (List UInt8)) (hs : a.eval s = .slice none 0 0) (hx : a.eval x = v) (hl : AllH l) (hn : l.length ≤ 1000000) {B : Nat} (h : SlS w B v l) (base : Nat) (hb : base ≤ w.heap.size)
    (hK : ∀ v' w', w'.ownsRow base 23 32 v' l.length (flatS l) → Ext w w' → wpList Tryd.prog ops Q rest (a.put o.dst v') w') : wpList Tryd.prog ops Q (o :: rest) a w := by
  obtain ⟨i0, z, hi, hz0, hz1, hz2, hz3⟩ := info_sum
  obtain ⟨A, cap, rfl, hA, hc, hc63, hr⟩ := h
  have h0 : w.ownsRow base 23 32 (.slice none 0 0) 0 [] := World.ownsRow_nil _ _ _ _
  have ext : ∀ w', w.grownBy w' (Value.slice none 0 0).ownBlock → Ext w w' := fun w' hg => ⟨hg.os, hg.tape, hg.output, hg.size, fun k hk => hg.block k hk (by simp [Value.ownBlock])⟩
  have one : ∀ (ad : Addr), A = some ad → wpList Tryd.prog ops Q (o :: rest) a w := fun ad hA' => by
    subst hA'
    refine wpList_append_own w hgd s x 25 ho base 23 i0 z 32 32 Tryd.underlying25 hi hz0 hz1 hz2 hz3 (by decide) _ 0 [] hs h0 ad l.length cap (flatS l) hx (flatS_length l hl) (fun j u hu => ?_) (flatS_one_ l) (by unfold maxLen; omega) (by omega) hb fun v' w' h1 h2 _ => hK v' w' (by simpa using h1) (ext w' h2)
    obtain ⟨b', off', e, _, hcc⟩ := hr (fun e => by rw [e] at hu; simp at hu)
    injection e with e
    subst e
    rw [Addr.add_mid]
    exact hcc j u hu
  rcases hA with ⟨rfl | ⟨ad, rfl⟩, rfl, rfl⟩ | ⟨b, off, rfl⟩
  · exact wpList_append_own_none hgd s x 25 ho base 23 i0 32 Tryd.underlying25 hi _ 0 [] hs h0 hx (hK _ w h0 (Ext.refl w))
  · exact one ad rfl
  · exact one _ rfl

/-- append(up, x). -/
theorem append_one {ops : Array Oper} {rest : List Oper} {o : Oper} {a : Act} {w w0 : World} {Q : Exit → Act → World → Prop} (hgd : o.guard = none) (s x : Operand) (ho : o.op = .call { callee := .builtin .append, args := #[s, x], argTypes := #[25, 25] })
    (v : Value) (l : List (List UInt8)) (y : List UInt8) (hs : a.eval s = v) (hx : a.eval x = .slice (some ⟨w.heap.size, 0, none⟩) 1 1) (hy : y.length = 32) (hn : l.length ≤ 1000000) (base : Nat) (hb : base ≤ w.heap.size) (n : Nat) (hln : l.length = n)
    (h : w.ownsRow base 23 32 v n (flatS l)) (hE : Ext w0 w) (hb0 : w0.heap.size ≤ base)
    (hK : ∀ A c w', w'.ownsRow base 23 32 (.slice A (n + 1) c) (n + 1) (flatS (l ++ [y])) → Ext w0 w' → wpList Tryd.prog ops Q rest (a.put o.dst (.slice A (n + 1) c)) w') :
    wpList Tryd.prog ops Q (o :: rest) a (w.alloc (.cells (flatS [y]).toArray 23)) := by
  obtain ⟨i0, z, hi, hz0, hz1, hz2, hz3⟩ := info_sum
  refine wpList_append_own _ hgd s x 25 ho base 23 i0 z 32 32 Tryd.underlying25 hi hz0 hz1 hz2 hz3 (by decide) v n (flatS l) hs (h.alloc _) ⟨w.heap.size, 0, none⟩ 1 1 (hcells y) hx (by rw [hcells_length, hy]) (fun j u hj => ?_) (hcells_one y) (by unfold maxLen; omega) (by omega) (by simp; omega) fun v' w' h1 h2 _ => ?_
  · rw [Addr.add_mid, Nat.zero_add, Blk.cell (Blk.new w 23 (flatS [y]).toArray) j, flatS_one]
    simpa using hj
  · obtain ⟨A, c, rfl⟩ := own_slice h1
    rw [← flatS_one, ← flatS_append] at h1
    exact hK A c w' h1 ((hE.alloc _).grown h2 (by have := hE.size; simp; omega) (fun g hg => Nat.le_trans hb0 (h.lt g hg).1))

end Go.Proofs.YtfpipdopgepelaaDoor
