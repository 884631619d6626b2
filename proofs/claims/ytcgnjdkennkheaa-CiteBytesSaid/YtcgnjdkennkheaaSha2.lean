/-
  The walk of sha.Step.
-/
import Derived.Test.YtcgnjdkennkheaaSha
set_option linter.unusedVariables false
set_option maxRecDepth 100000
set_option linter.unusedSimpArgs false
namespace Go.Proofs.Ytcgnjdkennkheaa
open Go.RowKit
attribute [local go_sem] bs_size bs_toList2 bs_append bs_extract_end bs_extract_begin bs_get wrap64_b grow_cell grow_frozen

theorem wat_some {l : List Int} {i : Nat} (h : i < l.length) : l[i]? = some (wat l i) := by simp [wat, h]
def xorW (x y : Int) : Int := Go.bits BinOp.xor IntKind.u32 x y
def andW (x y : Int) : Int := Go.bits BinOp.and IntKind.u32 x y
def rndOne (W v : List Int) (t : Nat) : Int := (wat v 7 + turn (wat v 4) 6 11 25 + xorW (andW (wat v 4) (wat v 5)) (andW (xorW IntKind.u32.max (wat v 4)) (wat v 6)) + wat keyList t + wat W t) % 4294967296
def rndTwo (v : List Int) : Int := (turn (wat v 0) 2 13 22 + xorW (xorW (andW (wat v 0) (wat v 1)) (andW (wat v 0) (wat v 2))) (andW (wat v 1) (wat v 2))) % 4294967296
def rnd (W v : List Int) (t : Nat) : List Int := [(rndOne W v t + rndTwo v) % 4294967296, wat v 0, wat v 1, wat v 2, (wat v 3 + rndOne W v t) % 4294967296, wat v 4, wat v 5, wat v 6]
def rounds (W s : List Int) : Nat → List Int
  | 0 => s
  | t + 1 => rnd W (rounds W s t) t

def addK (s v : List Int) : Nat → List Int
  | 0 => s
  | k + 1 => (addK s v k).set k ((wat (addK s v k) k + wat v k) % 4294967296)
theorem addK_length (s v : List Int) (k : Nat) : (addK s v k).length = s.length := by
  induction k with
  | zero => rfl
  | succ k ih => simp [addK, ih]
def eight (v : List Int) : List Int := [wat v 0, wat v 1, wat v 2, wat v 3, wat v 4, wat v 5, wat v 6, wat v 7]
def step (s b : List Int) : List Int := addK s (eight (rounds (schedK b 48) s 64)) 8
theorem step_length (s b : List Int) : (step s b).length = s.length := addK_length _ _ _
end Go.Proofs.Ytcgnjdkennkheaa
