/-
  The walk of (*sha.Hash).Write.
-/
import Derived.Test.YtcgnjdkennkheaaSha4
import Derived.Test.YtcgnjdkennkheaaMix2
set_option linter.unusedVariables false
set_option maxRecDepth 100000
set_option linter.unusedSimpArgs false
namespace Go.Proofs.Ytcgnjdkennkheaa
open Go.RowKit
attribute [local go_sem] bs_size bs_toList2 bs_append bs_extract_end bs_extract_begin bs_get wrap64_b grow_cell grow_frozen

/-- A hash's cells. -/
def hashV (b : Bool) (st : List Int) (rest : List UInt8) (n : Int) : List Value := .bool b :: .int .u32 (wat st 0) :: .int .u32 (wat st 1) :: .int .u32 (wat st 2) :: .int .u32 (wat st 3) :: .int .u32 (wat st 4) :: .int .u32 (wat st 5) :: .int .u32 (wat st 6) :: .int .u32 (wat st 7) :: [.string (bs rest), .int .i64 n]
theorem start_length : start.length = 8 := rfl

def begunW (w : World) (g : Nat) (st' : List Int) : World := (((((((((w.setCell ⟨g, 0, none⟩ (.bool true)).setCell ⟨g, 1, none⟩ (.int .u32 (wat st' 0))).setCell ⟨g, 2, none⟩ (.int .u32 (wat st' 1))).setCell ⟨g, 3, none⟩ (.int .u32 (wat st' 2))).setCell ⟨g, 4, none⟩ (.int .u32 (wat st' 3))).setCell ⟨g, 5, none⟩ (.int .u32 (wat st' 4))).setCell ⟨g, 6, none⟩ (.int .u32 (wat st' 5))).setCell ⟨g, 7, none⟩ (.int .u32 (wat st' 6))).setCell ⟨g, 8, none⟩ (.int .u32 (wat st' 7)))
theorem Upd.begun {g : Nat} {a b : World} (h : Upd g a b) (st' : List Int) : Upd g a (begunW b g st') :=
  ((((((((h.setCell (.inl rfl) _).setCell (.inl rfl) _).setCell (.inl rfl) _).setCell (.inl rfl) _).setCell (.inl rfl) _).setCell (.inl rfl) _).setCell (.inl rfl) _).setCell (.inl rfl) _).setCell (.inl rfl) _
end Go.Proofs.Ytcgnjdkennkheaa
