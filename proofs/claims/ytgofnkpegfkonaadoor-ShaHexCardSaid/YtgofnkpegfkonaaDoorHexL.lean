/-
  The digits of a hash, plainly.
-/
import Derived.Test.YtgofnkpegfkonaaDoorHex
set_option linter.unusedVariables false
set_option linter.unusedSimpArgs false
namespace Go.Proofs.YtgofnkpegfkonaaDoor
open Go.RowKit

theorem hexOf_get (l : List UInt8) : ∀ i (h : i < l.length) (h2 : 2 * i + 1 < (hexOf l).length), (hexOf l)[2 * i]'(by omega) = hexD (l[i].toNat / 16) ∧ (hexOf l)[2 * i + 1] = hexD (l[i].toNat % 16) := by
  induction l with
  | nil => intro i h; simp at h
  | cons c l ih =>
    intro i h h2
    cases i with
    | zero => exact ⟨rfl, rfl⟩
    | succ i =>
      have hi : i < l.length := by simpa using h
      have := ih i hi (by rw [hexOf_length]; omega)
      have e : hexOf (c :: l) = hexD (c.toNat / 16) :: hexD (c.toNat % 16) :: hexOf l := rfl
      simp only [e, show 2 * (i + 1) = 2 * i + 1 + 1 from by omega, show 2 * i + 1 + 1 + 1 = (2 * i + 1) + 1 + 1 from rfl, List.getElem_cons_succ]
      exact this
theorem hexD_val (n : Nat) (h : n < 16) : (hexD n).toNat = if n < 10 then 48 + n else 87 + n := by
  have : ∀ n : Fin 16, (hexD n.val).toNat = if n.val < 10 then 48 + n.val else 87 + n.val := by decide +kernel
  exact this ⟨n, h⟩
theorem hexD_inj (m n : Nat) (hm : m < 16) (hn : n < 16) (h : hexD m = hexD n) : m = n := by
  have h' := congrArg UInt8.toNat h
  rw [hexD_val m hm, hexD_val n hn] at h'
  split at h' <;> split at h' <;> omega
theorem hexOf_inj : ∀ (x y : List UInt8), hexOf x = hexOf y → x = y
  | [], [] => fun _ => rfl
  | [], _ :: _ => fun h => by cases h
  | _ :: _, [] => fun h => by cases h
  | c :: x, d :: y => fun h => by
    have e : ∀ (c : UInt8) l, hexOf (c :: l) = hexD (c.toNat / 16) :: hexD (c.toNat % 16) :: hexOf l := fun _ _ => rfl
    rw [e, e] at h
    injection h with h1 h
    injection h with h2 h
    have hc := c.toNat_lt; have hd := d.toNat_lt
    have a1 := hexD_inj _ _ (by omega) (by omega) h1
    have a2 := hexD_inj _ _ (by omega) (by omega) h2
    have : c = d := UInt8.toNat_inj.1 (by omega)
    rw [this, hexOf_inj x y h]
/-- The i-th digit. -/
def nib (b : UInt8) (i : Nat) : Nat := if i % 2 = 1 then b.toNat % 16 else b.toNat / 16
theorem nib_lt (b : UInt8) (i : Nat) : nib b i < 16 := by have := b.toNat_lt; unfold nib; split <;> omega
theorem hexOf_at (l : List UInt8) (i : Nat) (h : i / 2 < l.length) (h2 : i < (hexOf l).length) : ((hexOf l)[i]).toNat = if nib l[i / 2] i < 10 then 48 + nib l[i / 2] i else 87 + nib l[i / 2] i := by
  have h3 := hexOf_get l (i / 2) h (by rw [hexOf_length]; omega)
  rw [← hexD_val _ (nib_lt _ _)]
  congr 1
  unfold nib
  by_cases hp : i % 2 = 1
  · have e : i = 2 * (i / 2) + 1 := by omega
    simp only [hp, if_true]
    rw [← h3.2]
    congr 1
  · have e : i = 2 * (i / 2) := by omega
    simp only [hp, if_false]
    rw [← h3.1]
    congr 1

end Go.Proofs.YtgofnkpegfkonaaDoor
