/-
  The walks of the document's scanner (scriniumref01): it agrees with the plain one.
-/
import Derived.Test.YtcgnjdkennkheaaGreatDoorL01
set_option linter.unusedVariables false
set_option maxRecDepth 100000
set_option linter.unusedSimpArgs false
namespace Go.Proofs.YtcgnjdkennkheaaGreatDoor
open Go.RowKit
attribute [local go_sem] bs_size bs_toList2 bs_append bs_extract_end bs_extract_begin bs_get wrap64_b

theorem Upd.grown {g : Nat} {a b c : World} {row : Option Nat} (h : Upd g a b) (k : b.grownBy c row) (hr : ∀ i, row = some i → a.heap.size ≤ i) : Upd g a c :=
  ⟨k.os.trans h.os, k.tape.trans h.tape, k.output.trans h.output, Nat.le_trans h.size k.size, fun i hi hn => (k.block i (Nat.lt_of_lt_of_le hi h.size) (fun e => by have := hr i e.symm; omega)).trans (h.block i hi hn)⟩

/-- A callee that leaves the world alone, in a region of reads. -/
theorem quiet_eqd {P : Program} {f : FuncId} {args : Array Value} {w : World} {n : Nat} {v : Value} (h : Calls P f args (w.drewN n) fun e w' => e = .returned v ∧ w.drewN n = w') :
    Calls P f args (w.drewN n) fun e w'' => e = .returned v ∧ ∃ m, w'' = w.drewN m := h.mono fun _ _ ⟨he, hm⟩ => ⟨he, n, hm.symm⟩

theorem drop_get {s : List UInt8} {m : Nat} {c : UInt8} {r : List UInt8} (h : s.drop m = c :: r) : s.length = m + 1 + r.length ∧ (∀ hm : m < s.length, s[m]'hm = c) ∧ (∀ (j : Nat) (hj : j < r.length) (hm : m + (j + 1) < s.length), s[m + (j + 1)]'hm = r[j]) ∧ s.drop (m + 1) = r := by
  have hl := congrArg List.length h
  simp at hl
  refine ⟨by omega, fun hm => ?_, fun j hj hm => ?_, ?_⟩
  · have h1 : s[m]? = some c := by
      have : (s.drop m)[0]? = some c := by rw [h]; rfl
      rwa [List.getElem?_drop, Nat.add_zero] at this
    rw [List.getElem?_eq_getElem hm] at h1
    exact Option.some.inj h1
  · have h1 : s[m + (j + 1)]? = some r[j] := by
      have : (s.drop m)[j + 1]? = some r[j] := by rw [h, List.getElem?_cons_succ, List.getElem?_eq_getElem hj]
      rwa [List.getElem?_drop] at this
    rw [List.getElem?_eq_getElem hm] at h1
    exact Option.some.inj h1
  · rw [← List.drop_drop, h]; rfl

theorem long_bad (x : Oct.Sc) (h : x.long.2.spoil = true) : x.long.1 = 0 := by
  unfold Oct.Sc.long at h ⊢
  split
  · rfl
  · rename_i hs
    rw [if_neg hs] at h
    split
    · rfl
    · rename_i c r hr
      rw [hr] at h
      simp only at h
      split
      · rfl
      · rename_i h1
        rw [if_neg h1] at h
        split
        · rfl
        · rename_i h2
          rw [if_neg h2] at h
          simp at h

end Go.Proofs.YtcgnjdkennkheaaGreatDoor
