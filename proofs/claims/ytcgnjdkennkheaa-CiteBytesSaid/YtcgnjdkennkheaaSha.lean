/-
  The walks of layer 2 (sha).
-/
import Derived.Test.YtcgnjdkennkheaaKeys
import Derived.Test.YtcgnjdkennkheaaBld
import Derived.Deep.QuietTactic
import Derived.BigQuiet
import Derived.Lib.Hide
import Derived.Deep.DeepFit
import Derived.Deep.RegionLaw
import Derived.Deep.MidRow
import Derived.Test.YtcgnjdkennkheaaMix
import Derived.Laws.CopyOwn
set_option linter.unusedVariables false
set_option maxRecDepth 100000
set_option linter.unusedSimpArgs false
namespace Go.Proofs.Ytcgnjdkennkheaa
open Go.RowKit
attribute [local go_sem] bs_size bs_toList2 bs_append bs_extract_end bs_extract_begin bs_get wrap64_b grow_cell grow_frozen

/-- A callee that leaves the world alone, in a region of reads. -/
theorem quiet_eq {P : Program} {f : FuncId} {args : Array Value} {w : World} {n : Nat} {v : Value} (h : Calls P f args (w.drewN n) fun e w' => e = .returned v ∧ w.drewN n = w') :
    Calls P f args (w.drewN n) fun e w'' => e = .returned v ∧ ∃ m, w'' = w.drewN m := h.mono fun _ _ ⟨he, hm⟩ => ⟨he, n, hm.symm⟩

/-- A word turned to the right by n bits, as the model reckons. -/
def rotr (n : Nat) (x : Int) : Int := Go.bits BinOp.or IntKind.u32 (x / 2 ^ n) (x * 2 ^ (32 - n) % 4294967296)

theorem or_comm (k : IntKind) (a b : Int) : Go.bits BinOp.or k a b = Go.bits BinOp.or k b a := by
  unfold Go.bits
  simp [Nat.or_comm]

theorem and31 : ∀ n : Fin 32, n.val ≠ 0 → Go.bits BinOp.and IntKind.u64 (IntKind.u64.wrap (-(n.val : Int))) 31 = 32 - (n.val : Int) := by decide +kernel

/-- turn -/
def turn (x : Int) (a b c : Nat) : Int := Go.bits BinOp.xor IntKind.u32 (Go.bits BinOp.xor IntKind.u32 (rotr a x) (rotr b x)) (rotr c x)

/-- The start. -/
def start : List Int := [1779033703, 3144134277, 1013904242, 2773480762, 1359893119, 2600822924, 528734635, 1541459225]
def wordV (x : Int) : Value := .int .u32 x
theorem info_u32 : (Try.prog.info? 107).map (fun i => (i.zero, i.size, i.bytes)) = some (some (.int .u32 0), 1, 4) := by kernel_rfl
def zeros (n : Nat) : List Int := List.replicate n 0
theorem alloc_size (w : World) (o : Obj) : (w.alloc o).heap.size = w.heap.size + 1 := by simp
/-- An array of words at block g. -/
def Arr (w : World) (g : Nat) (t : TypeId) (l : List Int) : Prop := Blk w g t (l.map wordV).toArray

/-- mix -/
def mixW (x : Int) (a b c : Nat) : Int := Go.bits BinOp.xor IntKind.u32 (Go.bits BinOp.xor IntKind.u32 (rotr a x) (rotr b x)) (x / 2 ^ c)
/-- the i-th word -/
def wat (l : List Int) (i : Nat) : Int := l.getD i 0
def addW (x y : Int) : Int := (x + y) % 4294967296
def nextW (l : List Int) (t : Nat) : Int := (mixW (wat l (t - 2)) 17 19 10 + wat l (t - 7) + mixW (wat l (t - 15)) 7 18 3 + wat l (t - 16)) % 4294967296
theorem Arr.set {w : World} {g : Nat} {t : TypeId} {l : List Int} (h : Arr w g t l) (i : Nat) (v : Int) : Arr (w.setCell ⟨g, i, none⟩ (.int .u32 v)) g t (l.set i v) := by
  have := Blk.set_ h i (.int .u32 v)
  simpa [Arr, wordV, List.map_set] using this
theorem Arr.cell {w : World} {g : Nat} {t : TypeId} {l : List Int} (h : Arr w g t l) (i : Nat) (hi : i < l.length) : w.cell? ⟨g, i, none⟩ = some (.int .u32 (wat l i)) := by
  rw [Blk.cell h i]
  simp [wordV, wat, hi]
def schedK (b : List Int) : Nat → List Int
  | 0 => b ++ zeros 48
  | k + 1 => (schedK b k).set (16 + k) (nextW (schedK b k) (16 + k))
theorem schedK_length (b : List Int) (hb : b.length = 16) (k : Nat) : (schedK b k).length = 64 := by
  induction k with
  | zero => simp [schedK, hb, zeros]
  | succ k ih => simp [schedK, ih]

end Go.Proofs.Ytcgnjdkennkheaa
