/-
  The walks of (*sha.Hash).Len and Copy.
-/
import Derived.Test.YtcgnjdkennkheaaGreatDoorSha8
set_option linter.unusedVariables false
set_option maxRecDepth 100000
set_option linter.unusedSimpArgs false
namespace Go.Proofs.YtcgnjdkennkheaaGreatDoor
open Go.RowKit
attribute [local go_sem] bs_size bs_toList2 bs_append bs_extract_end bs_extract_begin bs_get wrap64_b grow_cell grow_frozen

theorem Copy_nil (w : World) : Calls Tryz.prog 131 #[.pointer none] w fun e w' => e = .returned (.pointer none) ∧ w = w' := by
  go_enter Tryz.func131, Tryz.ntmps131
  go_wp2
  go_ret
  exact ⟨rfl, rfl⟩
theorem size52 : (Tryz.prog.info? 167).map (·.size) = some 11 := by kernel_rfl
theorem Copy_row (b : Bool) (st : List Int) (rest : List UInt8) (n : Int) (g : Nat) (w : World) (hg : HashV w g b st rest n) :
    Calls Tryz.prog 131 #[.pointer (some ⟨g, 0, none⟩)] w fun e w' => e = .returned (.pointer (some ⟨w.heap.size, 0, none⟩)) ∧ HashV w' w.heap.size b st rest n ∧ Ext w w' := by
  have hsz : (hashV b st rest n).toArray.size = 11 := by simp [hashV]
  go_enter Tryz.func131, Tryz.ntmps131
  go_wp2_with (refine stop_load 167 (.tmp 7) rfl ?_)
  refine ⟨?_⟩
  refine wpList_load_row rfl 167 (.tmp 7) rfl g (by rfl) 167 _ (0, 0) _ hg Tryz.underlying167 rfl (size52.trans (by rw [hsz])) ?_
  simp only [Act.put, List.setIfInBounds_toArray, List.set_cons_zero, List.set_cons_succ]
  go_wp2_with (refine stop_store 167 (.tmp 3) (.tmp 8) rfl ?_)
  refine ⟨?_⟩
  refine wpList_store_row rfl 167 (.tmp 3) (.tmp 8) rfl w.heap.size _ (by rfl) (by rfl) 167 _ (Blk.new w _ _) (size52.trans (by rw [hsz])) (by rw [hsz]; rfl) (by simp [hashV, wordV, Value.oneCell']) ?_
  simp only [Act.put, List.setIfInBounds_toArray, List.set_cons_zero, List.set_cons_succ]
  go_wp2_with fail
  go_ret
  exact ⟨rfl, Blk.row (Blk.new w _ _) _, ((Ext.refl w).alloc _).row (Nat.le_refl _) _⟩
theorem Copy_calls (all : List UInt8) (g : Nat) (w : World) (hg : HashOk w g all) :
    Calls Tryz.prog 131 #[.pointer (some ⟨g, 0, none⟩)] w fun e w' => e = .returned (.pointer (some ⟨w.heap.size, 0, none⟩)) ∧ HashOk w' w.heap.size all ∧ Ext w w' := by
  rcases hg with hg | ⟨rfl, hg⟩
  · exact (Copy_row _ _ _ _ g w hg).mono fun e w' ⟨h1, h2, h3⟩ => ⟨h1, .inl h2, h3⟩
  · exact (Copy_row _ _ _ _ g w hg).mono fun e w' ⟨h1, h2, h3⟩ => ⟨h1, .inr ⟨rfl, h2⟩, h3⟩

end Go.Proofs.YtcgnjdkennkheaaGreatDoor
