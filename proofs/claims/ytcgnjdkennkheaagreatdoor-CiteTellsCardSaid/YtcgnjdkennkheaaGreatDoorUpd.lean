/-
  A region that draws its order, in which one block may be written by a call: what lies elsewhere is read in whatever order.
-/
import Derived.Test.YtcgnjdkennkheaaGreatDoorMix5
set_option linter.unusedVariables false
set_option maxRecDepth 100000
set_option linter.unusedSimpArgs false
namespace Go.Proofs.YtcgnjdkennkheaaGreatDoor
open Go.RowKit

/-- A world that is w but for block g, and what is new. -/
structure Turn (g : Nat) (w : World) where
  world : World
  upd : Upd g w world
instance turnInhabited (g : Nat) (w : World) : Inhabited (Turn g w) := ⟨⟨w, Upd.refl g w⟩⟩
def turned (g : Nat) (w : World) (x : Turn g w) : World := x.world
section
variable {g : Nat} {w : World} (x : Turn g w)
theorem turned_upd : Upd g w (turned g w x) := x.upd
theorem turned_cell (b o : Nat) (h : b < w.heap.size) (hne : ¬ b = g) : (turned g w x).cell? ⟨b, o, none⟩ = w.cell? ⟨b, o, none⟩ :=
  World.cell?_of_block ((turned_upd x).block b h (fun e => hne (by injection e)))
theorem turned_of {w' : World} (h : Upd g w w') : ∃ y : Turn g w, w' = turned g w y := ⟨⟨w', h⟩, rfl⟩
variable {P : Program} {id : Nat} {Q : Exit → Act → World → Prop} {a : Act} {l : List Oper}
theorem region_upd (g n : Nat) (hm : P.follows .mixedOrders = true) (hB : mixB loudOp .any l.toArray n = true)
    (h : wpMix P l.toArray (fun w' => ∃ x : Turn g w, w' = turned g w x) loudOp (fun a' w' => wpList P l.toArray Q (l.drop n) a' w') (l.take n) a w.drew) : (Code.region id l.toArray true).wp P Q a w :=
  wp_region_mix (S := fun w' => ∃ x : Turn g w, w' = turned g w x) n hm hB (turned_of (Upd.refl g w).drew) h
theorem region_upd0 (g : Nat) (hm : P.follows .mixedOrders = true) (hB : mixB loudOp .any l.toArray l.length = true)
    (h : wpMix P l.toArray (fun w' => ∃ x : Turn g w, w' = turned g w x) loudOp (fun a' w' => Q .normal a' w') l a w.drew) : (Code.region id l.toArray true).wp P Q a w := by
  refine region_upd g l.length hm hB ?_
  rw [List.take_length, List.drop_length]
  exact h
end

theorem joinB_len (c : Nat) : ∀ (l : List (List UInt8)), (∀ s ∈ l, s.length ≤ c) → (joinB l).length ≤ l.length * c := by
  intro l
  induction l with
  | nil => intro _; simp [joinB]
  | cons s l ih =>
    intro h
    have h1 := h s (by simp)
    have h2 := ih (fun t ht => h t (by simp [ht]))
    unfold joinB at *
    simp only [List.flatten_cons, List.length_append, List.length_cons, Nat.add_mul, Nat.one_mul]
    omega

end Go.Proofs.YtcgnjdkennkheaaGreatDoor
