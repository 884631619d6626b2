/-
  The package's table of keys (scrinium/sha.keys), as the row lists it.
-/
import Derived.Test.YtcgnjdkennkheaaGreatDoorCards
import Derived.Test.YtcgnjdkennkheaaGreatDoorTie
import Derived.Test.YtcgnjdkennkheaaGreatDoorOpen
import Derived.OpenShut
import Derived.Deep.DeepHandedRow
import Derived.Lib.LaidTab
set_option linter.unusedVariables false
set_option maxRecDepth 100000
set_option linter.unusedSimpArgs false
namespace Go.Proofs.YtcgnjdkennkheaaGreatDoor
open Go.ChangeShapes Go.WideShapes Go.ChangeAt Go.RowKit

def keyList : List Int := [
1116352408, 1899447441, 3049323471, 3921009573, 961987163, 1508970993, 2453635748, 2870763221,
3624381080, 310598401, 607225278, 1426881987, 1925078388, 2162078206, 2614888103, 3248222580,
3835390401, 4022224774, 264347078, 604807628, 770255983, 1249150122, 1555081692, 1996064986,
2554220882, 2821834349, 2952996808, 3210313671, 3336571891, 3584528711, 113926993, 338241895,
666307205, 773529912, 1294757372, 1396182291, 1695183700, 1986661051, 2177026350, 2456956037,
2730485921, 2820302411, 3259730800, 3345764771, 3516065817, 3600352804, 4094571909, 275423344,
430227734, 506948616, 659060556, 883997877, 958139571, 1322822218, 1537002063, 1747873779,
1955562222, 2024104815, 2227730452, 2361852424, 2428436474, 2756734187, 3204031479, 3329325298]
theorem gKeys : Tryz.prog.globalNamed "scrinium/sha.keys" = some 0 := by kernel_rfl
theorem gKeysType : (Tryz.prog.globals[0]?).map (·.type) = some 146 := by kernel_rfl
theorem cellsKeys : Tryz.prog.cellsOf 146 = 64 := by kernel_rfl
theorem cellsU32 : Tryz.prog.cellsOf 124 = 1 := by kernel_rfl
/-- The table's cells hold the 64 keys. -/
def Keys (W : World) : Prop := ∀ i, i < 64 → W.cell? ⟨0, i, none⟩ = some (.int .u32 (keyList.getD i 0))
theorem keys_of {W : World} (h : laidMetH Tryz.prog [("scrinium/sha.keys", Rows.laid_scrinium_sha_keys)] W) : Keys W := by
  have ht : Lib.TabIs Tryz.prog W "scrinium/sha.keys" .u32 keyList := Lib.tabIs_of_head (rest := []) gKeys gKeysType Tryz.underlying146 Tryz.underlying124 cellsU32 cellsKeys h
  exact fun i hi => ht.cell gKeys i hi
theorem Keys.ext {W W' : World} (h : Keys W) (hb : Ext W W') : Keys W' := fun i hi => by
  have hlt : 0 < W.heap.size := World.block_lt_of_cell? W _ (h 0 (by omega))
  exact (hb.cell (p := ⟨0, i, none⟩) hlt).trans (h i hi)
noncomputable def keysWorld (os : Os) : World :=
  { World.holding Tryz.prog os ⟨#[], #[], []⟩ with heap := (World.holding Tryz.prog os ⟨#[], #[], []⟩).heap.modify 0 fun
      | .cells _ t frozen => .cells (keyList.map fun z => Value.int .u32 z).toArray t frozen
      | o => o }

end Go.Proofs.YtcgnjdkennkheaaGreatDoor
