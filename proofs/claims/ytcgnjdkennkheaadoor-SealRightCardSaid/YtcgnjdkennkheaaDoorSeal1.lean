/-
  Words for freezes, heads and stones in memory: their cells, their parts, what is stored in them; two compared.
-/
import Derived.Test.YtcgnjdkennkheaaDoorSealP
import Derived.Test.YtcgnjdkennkheaaDoorSums
import Derived.Test.YtcgnjdkennkheaaDoorEqA
set_option linter.unusedVariables false
set_option maxRecDepth 100000
set_option linter.unusedSimpArgs false
namespace Go.Proofs.YtcgnjdkennkheaaDoor
open Go.RowKit
open Seal (Fz Hd St)

/-- A block's cells, from o on, overwritten. -/
def setL : List Value → Nat → List Value → List Value
  | l, _, [] => l
  | l, o, v :: vs => setL (l.set o v) (o + 1) vs
theorem setL_mid : ∀ (vs old pre post : List Value), old.length = vs.length → setL (pre ++ (old ++ post)) pre.length vs = pre ++ (vs ++ post)
  | [], [], pre, post, _ => rfl
  | v :: vs, u :: old, pre, post, h => by
    have h1 : (pre ++ (u :: old ++ post)).set pre.length v = (pre ++ [v]) ++ (old ++ post) := by
      rw [List.set_append_right _ _ (Nat.le_refl _), Nat.sub_self]
      simp
    have h2 := setL_mid vs old (pre ++ [v]) post (by simpa using h)
    unfold setL
    rw [h1]
    rw [List.length_append, List.length_singleton] at h2
    rw [h2]
    simp
  | [], _ :: _, _, _, h => by simp at h
  | _ :: _, [], _, _, h => by simp at h
theorem Blk.setCells {g : Nat} {t : TypeId} : ∀ (vs : List Value) (o : Nat) (l : List Value) (w : World), Blk w g t l.toArray → Blk (w.setCells g o vs) g t (setL l o vs).toArray
  | [], o, l, w, h => h
  | v :: vs, o, l, w, h => by
    unfold World.setCells setL
    have h1 := h.set_ o v
    rw [List.setIfInBounds_toArray] at h1
    exact Blk.setCells vs (o + 1) (l.set o v) _ h1
theorem Blk.mid {w : World} {g : Nat} {t : TypeId} {pre old post : List Value} (h : Blk w g t (pre ++ (old ++ post)).toArray) (vs : List Value) (o : Nat) (ho : o = pre.length) (hl : old.length = vs.length) : Blk (w.setCells g o vs) g t (pre ++ (vs ++ post)).toArray := by
  subst ho
  have := h.setCells vs pre.length
  rwa [setL_mid vs old pre post hl] at this
theorem Blk.range {w : World} {g : Nat} {t : TypeId} {pre mid post : List Value} (h : Blk w g t (pre ++ (mid ++ post)).toArray) (o : Nat) (ho : o = pre.length) : w.rangeAt g o mid := fun j v hv => by
  subst ho
  rw [h.cell]
  have hj : j < mid.length := (List.getElem?_eq_some_iff.1 hv).1
  simp only [List.getElem?_toArray]
  rw [List.getElem?_append_right (by omega), Nat.add_sub_cancel_left, List.getElem?_append_left hj]
  exact hv
theorem Blk.there {w : World} {g : Nat} {t : TypeId} {l : List Value} (h : Blk w g t l.toArray) (o n : Nat) (ho : o + n ≤ l.length) : w.there g o n := fun j hj => by
  refine ⟨?_, h.frozen _⟩
  rw [h.cell]
  have : o + j < l.length := by omega
  simp [this]
theorem ext_setCells {w : World} {g : Nat} (hg : w.heap.size ≤ g) : ∀ (vs : List Value) (o : Nat) (w' : World), Ext w w' → Ext w (w'.setCells g o vs)
  | [], o, w', h => h
  | v :: vs, o, w', h => ext_setCells hg vs (o + 1) _ (h.setCell (p := ⟨g, o, none⟩) hg v)
theorem upd_setCells {w : World} {g : Nat} : ∀ (vs : List Value) (o : Nat) (w' : World), Upd g w w' → Upd g w (w'.setCells g o vs)
  | [], o, w', h => h
  | v :: vs, o, w', h => upd_setCells vs (o + 1) _ (h.setCell (p := ⟨g, o, none⟩) (.inl rfl) v)
theorem Blk.farCells {g g' : Nat} {t : TypeId} {cs : Array Value} (hne : g ≠ g') : ∀ (vs : List Value) (o : Nat) (w : World), Blk w g t cs → Blk (w.setCells g' o vs) g t cs
  | [], o, w, h => h
  | v :: vs, o, w, h => Blk.farCells hne vs (o + 1) _ (Blk.far h (p := ⟨g', o, none⟩) hne v)

namespace Seal
def Fz.cells (f : Fz) : List Value := [.int .i64 f.win, .int .i64 f.cnt] ++ (hcells f.root ++ [])
def Fz.v (f : Fz) : Value := .agg f.cells.toArray
def Fz.fit (f : Fz) : Prop := (-9223372036854775808 ≤ f.win ∧ f.win ≤ 9223372036854775807) ∧ (-9223372036854775808 ≤ f.cnt ∧ f.cnt ≤ 9223372036854775807) ∧ f.root.length = 32
def Hd.cells (h : Hd) : List Value := [.int .i64 h.size] ++ (hcells h.root ++ ([.int .i64 h.clock] ++ (hcells h.mac ++ [])))
def Hd.v (h : Hd) : Value := .agg h.cells.toArray
def Hd.fit (h : Hd) : Prop := (-9223372036854775808 ≤ h.size ∧ h.size ≤ 9223372036854775807) ∧ (-9223372036854775808 ≤ h.clock ∧ h.clock ≤ 9223372036854775807) ∧ h.root.length = 32 ∧ h.mac.length = 32
def St.cells (t : St) : List Value := t.fz.cells ++ ([.int .i64 t.at_] ++ (hcells t.mac ++ []))
def St.v (t : St) : Value := .agg t.cells.toArray
def St.fit (t : St) : Prop := t.fz.fit ∧ (-9223372036854775808 ≤ t.at_ ∧ t.at_ ≤ 9223372036854775807) ∧ t.mac.length = 32
theorem Fz.cells_length (f : Fz) (h : f.root.length = 32) : f.cells.length = 34 := by simp [Fz.cells, hcells_length, h]
theorem Hd.cells_length (f : Hd) (h : f.root.length = 32) (h2 : f.mac.length = 32) : f.cells.length = 66 := by simp [Hd.cells, hcells_length, h, h2]
theorem St.cells_length (t : St) (h : t.fz.root.length = 32) (h2 : t.mac.length = 32) : t.cells.length = 67 := by simp [St.cells, Fz.cells_length, hcells_length, h, h2]
theorem cells_one (s : List UInt8) : ∀ u ∈ hcells s, u.oneCell' = true := fun u hu => by
  obtain ⟨c, _, rfl⟩ := List.mem_map.1 hu
  rfl
theorem Fz.one (f : Fz) : ∀ u ∈ f.cells, u.oneCell' = true := fun u hu => by
  simp only [Fz.cells, List.mem_append, List.mem_cons, List.not_mem_nil, or_false] at hu
  rcases hu with (rfl | rfl) | hu
  · rfl
  · rfl
  · exact cells_one _ u hu
theorem Hd.one (f : Hd) : ∀ u ∈ f.cells, u.oneCell' = true := fun u hu => by
  simp only [Hd.cells, List.mem_append, List.mem_cons, List.not_mem_nil, or_false] at hu
  rcases hu with rfl | hu | rfl | hu
  · rfl
  · exact cells_one _ u hu
  · rfl
  · exact cells_one _ u hu
theorem St.one (t : St) : ∀ u ∈ t.cells, u.oneCell' = true := fun u hu => by
  simp only [St.cells, List.mem_append, List.mem_cons, List.not_mem_nil, or_false] at hu
  rcases hu with hu | rfl | hu
  · exact Fz.one _ u hu
  · rfl
  · exact cells_one _ u hu
theorem size_fz (f : Fz) (h : f.root.length = 32) : (Tryd.prog.info? 27).map (·.size) = some f.cells.toArray.size := by
  rw [List.size_toArray, f.cells_length h]; kernel_rfl
theorem size_hd (f : Hd) (h : f.root.length = 32) (h2 : f.mac.length = 32) : (Tryd.prog.info? 25).map (·.size) = some f.cells.toArray.size := by
  rw [List.size_toArray, f.cells_length h h2]; kernel_rfl
theorem size_st (f : St) (h : f.fz.root.length = 32) (h2 : f.mac.length = 32) : (Tryd.prog.info? 29).map (·.size) = some f.cells.toArray.size := by
  rw [List.size_toArray, f.cells_length h h2]; kernel_rfl
end Seal

/-! ### A freeze, a head, a stone in a block -/
def FzAt (w : World) (g : Nat) (f : Fz) : Prop := Blk w g 27 f.cells.toArray
def HdAt (w : World) (g : Nat) (f : Hd) : Prop := Blk w g 25 f.cells.toArray
def StAt (w : World) (g : Nat) (f : St) : Prop := Blk w g 29 f.cells.toArray
section
variable {w : World} {g : Nat}
theorem FzAt.c0 {f : Fz} (h : FzAt w g f) : w.cell? ⟨g, 0, none⟩ = some (.int .i64 f.win) := Blk.cell h 0
theorem FzAt.c1 {f : Fz} (h : FzAt w g f) : w.cell? ⟨g, 1, none⟩ = some (.int .i64 f.cnt) := Blk.cell h 1
theorem FzAt.root {f : Fz} (h : FzAt w g f) : w.rangeAt g 2 (hcells f.root) := Blk.range h 2 rfl
theorem HdAt.c0 {f : Hd} (h : HdAt w g f) : w.cell? ⟨g, 0, none⟩ = some (.int .i64 f.size) := Blk.cell h 0
theorem HdAt.root {f : Hd} (h : HdAt w g f) : w.rangeAt g 1 (hcells f.root) := Blk.range h 1 rfl
theorem app3 (a b c d : List Value) : a ++ (b ++ (c ++ d)) = (a ++ b) ++ (c ++ d) := by simp
theorem HdAt.c33 {f : Hd} (h : HdAt w g f) (hr : f.root.length = 32) : w.cell? ⟨g, 33, none⟩ = some (.int .i64 f.clock) := by
  have h' := h
  unfold HdAt Hd.cells at h'
  rw [app3] at h'
  have := Blk.range h' 33 (by simp [hcells_length, hr])
  exact this 0 _ rfl
theorem HdAt.mac {f : Hd} (h : HdAt w g f) (hr : f.root.length = 32) : w.rangeAt g 34 (hcells f.mac) := by
  have h' := h
  unfold HdAt Hd.cells at h'
  rw [app3, ← List.append_assoc] at h'
  exact Blk.range h' 34 (by simp [hcells_length, hr])
theorem StAt.fz {f : St} (h : StAt w g f) : w.rangeAt g 0 f.fz.cells := Blk.range (pre := []) (mid := f.fz.cells) (post := [Value.int .i64 f.at_] ++ (hcells f.mac ++ [])) h 0 rfl
theorem StAt.c0 {f : St} (h : StAt w g f) : w.cell? ⟨g, 0, none⟩ = some (.int .i64 f.fz.win) := Blk.cell h 0
theorem StAt.c1 {f : St} (h : StAt w g f) : w.cell? ⟨g, 1, none⟩ = some (.int .i64 f.fz.cnt) := Blk.cell h 1
theorem StAt.c34 {f : St} (h : StAt w g f) (hr : f.fz.root.length = 32) : w.cell? ⟨g, 34, none⟩ = some (.int .i64 f.at_) := by
  have := Blk.range h 34 (by rw [Fz.cells_length _ hr])
  exact this 0 _ rfl
theorem StAt.mac {f : St} (h : StAt w g f) (hr : f.fz.root.length = 32) : w.rangeAt g 35 (hcells f.mac) := by
  have h' := h
  unfold StAt St.cells at h'
  rw [← List.append_assoc] at h'
  exact Blk.range h' 35 (by simp [Fz.cells_length _ hr])
theorem FzAt.ext {w' : World} {f : Fz} (h : FzAt w g f) (e : Ext w w') : FzAt w' g f := Blk.below h e (Blk.lt h)
theorem HdAt.ext {w' : World} {f : Hd} (h : HdAt w g f) (e : Ext w w') : HdAt w' g f := Blk.below h e (Blk.lt h)
theorem StAt.ext {w' : World} {f : St} (h : StAt w g f) (e : Ext w w') : StAt w' g f := Blk.below h e (Blk.lt h)
theorem FzAt.grow {f : Fz} (h : FzAt w g f) (x : More w) : FzAt (grow w x) g f := h.ext (grow_ext x)
theorem HdAt.grow {f : Hd} (h : HdAt w g f) (x : More w) : HdAt (grow w x) g f := h.ext (grow_ext x)
theorem StAt.grow {f : St} (h : StAt w g f) (x : More w) : StAt (grow w x) g f := h.ext (grow_ext x)
end

/-! ### Two compared -/
theorem part_agg {t : TypeId} {n : Nat} (ha : ∀ w, (isAgg t).run Tryd.prog w = .ok true w) (hz : ∀ w, (Go.sizeOf t).run Tryd.prog w = .ok n w) (pre mid post : List Value) (o : Nat) (ho : o = pre.length) (hn : n = mid.length) (w : World) :
    (part t (pre ++ (mid ++ post)).toArray o).run Tryd.prog w = .ok (.agg mid.toArray) w := by
  subst ho hn
  unfold part
  rw [Sem.run_bind, ha]
  simp only [Result.andThen_ok, if_true]
  rw [Sem.run_bind, hz]
  simp
theorem part_cell {t : TypeId} (ha : ∀ w, (isAgg t).run Tryd.prog w = .ok false w) (pre post : List Value) (v : Value) (o : Nat) (ho : o = pre.length) (w : World) :
    (part t (pre ++ ([v] ++ post)).toArray o).run Tryd.prog w = .ok v w := by
  subst ho
  unfold part
  rw [Sem.run_bind, ha]
  simp
theorem eq_sumd (d : Nat) (xs ys : List UInt8) (hx : xs.length = 32) (hy : ys.length = 32) (w : World) : (Op.equalIn (d + 2) 23 (.agg (hcells xs).toArray) (.agg (hcells ys).toArray)).run Tryd.prog w = .ok (decide (xs = ys)) w :=
  run_equalIn_arr byteV (d + 1) _ 5 32 Tryd.underlying23 (fun w => by rw [Tryd.sizeOf5]) (fun w => by rw [Tryd.isAgg5]) (fun a b w => eq_u8 d a b w) xs ys hx hy w
theorem eq_intd (d : Nat) (a b : Int) (w : World) : (Op.equalIn (d + 1) 3 (.int .i64 a) (.int .i64 b)).run Tryd.prog w = .ok (a == b) w := run_equalIn_int w d _ _ _ _ _ Tryd.underlying3
instance : DecidableEq Fz := fun a b => decidable_of_iff (a.win = b.win ∧ a.cnt = b.cnt ∧ a.root = b.root) ⟨fun h => by cases a; cases b; simp_all, fun h => by subst h; exact ⟨rfl, rfl, rfl⟩⟩
instance : DecidableEq Hd := fun a b => decidable_of_iff (a.size = b.size ∧ a.root = b.root ∧ a.clock = b.clock ∧ a.mac = b.mac) ⟨fun h => by cases a; cases b; simp_all, fun h => by subst h; exact ⟨rfl, rfl, rfl, rfl⟩⟩
instance : DecidableEq St := fun a b => decidable_of_iff (a.fz = b.fz ∧ a.at_ = b.at_ ∧ a.mac = b.mac) ⟨fun h => by cases a; cases b; simp_all, fun h => by subst h; exact ⟨rfl, rfl, rfl⟩⟩
theorem part_i (pre post : List Value) (v : Value) (o : Nat) (ho : o = pre.length) (w : World) : (part 3 (pre ++ ([v] ++ post)).toArray o).run Tryd.prog w = .ok v w := part_cell (fun w => by rw [Tryd.isAgg3]) pre post v o ho w
theorem part_s (pre post : List Value) (s : List UInt8) (hs : s.length = 32) (o : Nat) (ho : o = pre.length) (w : World) : (part 23 (pre ++ (hcells s ++ post)).toArray o).run Tryd.prog w = .ok (.agg (hcells s).toArray) w := part_agg (n := 32) (fun w => by rw [Tryd.isAgg23]) (fun w => by rw [Tryd.sizeOf23]) pre (hcells s) post o ho (by rw [hcells_length, hs]) w
theorem part_f (pre post : List Value) (f : Fz) (hs : f.root.length = 32) (o : Nat) (ho : o = pre.length) (w : World) : (part 27 (pre ++ (f.cells ++ post)).toArray o).run Tryd.prog w = .ok f.v w := part_agg (n := 34) (fun w => by rw [Tryd.isAgg27]) (fun w => by rw [Tryd.sizeOf27]) pre f.cells post o ho (by rw [Fz.cells_length _ hs]) w
theorem eq_fzd (d : Nat) (a b : Fz) (ha : a.root.length = 32) (hb : b.root.length = 32) (w : World) : (Op.equalIn (d + 3) 27 a.v b.v).run Tryd.prog w = .ok (decide (a = b)) w := by
  have p0 : ∀ (f : Fz) w, (part 3 f.cells.toArray 0).run Tryd.prog w = .ok (.int .i64 f.win) w := fun f w => part_i [] ([.int .i64 f.cnt] ++ (hcells f.root ++ [])) _ 0 rfl w
  have p1 : ∀ (f : Fz) w, (part 3 f.cells.toArray 1).run Tryd.prog w = .ok (.int .i64 f.cnt) w := fun f w => part_i [.int .i64 f.win] (hcells f.root ++ []) _ 1 rfl w
  have p2 : ∀ (f : Fz) (h : f.root.length = 32) w, (part 23 f.cells.toArray 2).run Tryd.prog w = .ok (.agg (hcells f.root).toArray) w := fun f h w => part_s [.int .i64 f.win, .int .i64 f.cnt] [] f.root h 2 rfl w
  have qi : ∀ (x y : Int) w, (Op.equalIn (d + 2) 3 (.int .i64 x) (.int .i64 y)).run Tryd.prog w = .ok (x == y) w := fun x y w => eq_intd (d + 1) x y w
  have qs := fun w => eq_sumd d _ _ ha hb w
  unfold Fz.v
  rw [run_equalIn_struct w (d + 2) _ _ _ (by kernel_rfl) (by kernel_rfl)]
  unfold Program.fieldsOf
  rw [Tryd.underlying27]
  by_cases h1 : a.win = b.win
  · by_cases h2 : a.cnt = b.cnt
    · by_cases h3 : a.root = b.root
      · obtain rfl : a = b := by cases a; cases b; simp_all
        simp [Op.eqFields, Sem.run_bind, Sem.run_ite, p0, p1, p2 a ha, qi, qs, Result.andThen_ok]
      · have : a ≠ b := fun e => h3 (by rw [e])
        simp [Op.eqFields, Sem.run_bind, Sem.run_ite, h1, h2, h3, this, p0, p1, p2 a ha, p2 b hb, qi, qs, Result.andThen_ok]
    · have : a ≠ b := fun e => h2 (by rw [e])
      simp [Op.eqFields, Sem.run_bind, Sem.run_ite, h1, h2, this, p0, p1, qi, Result.andThen_ok]
  · have : a ≠ b := fun e => h1 (by rw [e])
    simp [Op.eqFields, Sem.run_bind, Sem.run_ite, h1, this, p0, qi, Result.andThen_ok]
theorem eq_fz (a b : Fz) (ha : a.root.length = 32) (hb : b.root.length = 32) (w : World) : (Op.equalIn 10000 27 a.v b.v).run Tryd.prog w = .ok (decide (a = b)) w := eq_fzd 9997 a b ha hb w
theorem eq_hd (a b : Hd) (ha : a.root.length = 32) (hb : b.root.length = 32) (ha2 : a.mac.length = 32) (hb2 : b.mac.length = 32) (w : World) : (Op.equalIn 10000 25 a.v b.v).run Tryd.prog w = .ok (decide (a = b)) w := by
  have p0 : ∀ (f : Hd) w, (part 3 f.cells.toArray 0).run Tryd.prog w = .ok (.int .i64 f.size) w := fun f w => part_i [] (hcells f.root ++ ([.int .i64 f.clock] ++ (hcells f.mac ++ []))) _ 0 rfl w
  have p1 : ∀ (f : Hd) (h : f.root.length = 32) w, (part 23 f.cells.toArray 1).run Tryd.prog w = .ok (.agg (hcells f.root).toArray) w := fun f h w => by
    unfold Hd.cells
    exact part_s [.int .i64 f.size] ([.int .i64 f.clock] ++ (hcells f.mac ++ [])) f.root h 1 rfl w
  have p2 : ∀ (f : Hd) (h : f.root.length = 32) w, (part 3 f.cells.toArray 33).run Tryd.prog w = .ok (.int .i64 f.clock) w := fun f h w => by
    unfold Hd.cells
    rw [app3]
    exact part_i ([.int .i64 f.size] ++ hcells f.root) (hcells f.mac ++ []) _ 33 (by simp [hcells_length, h]) w
  have p3 : ∀ (f : Hd) (h : f.root.length = 32) (h2 : f.mac.length = 32) w, (part 23 f.cells.toArray 34).run Tryd.prog w = .ok (.agg (hcells f.mac).toArray) w := fun f h h2 w => by
    unfold Hd.cells
    rw [app3, ← List.append_assoc]
    exact part_s (([.int .i64 f.size] ++ hcells f.root) ++ [.int .i64 f.clock]) [] f.mac h2 34 (by simp [hcells_length, h]) w
  have qi : ∀ (x y : Int) w, (Op.equalIn 9999 3 (.int .i64 x) (.int .i64 y)).run Tryd.prog w = .ok (x == y) w := fun x y w => eq_intd 9998 x y w
  have qs : ∀ w, (Op.equalIn 9999 23 (.agg (hcells a.root).toArray) (.agg (hcells b.root).toArray)).run Tryd.prog w = .ok (decide (a.root = b.root)) w := fun w => eq_sumd 9997 _ _ ha hb w
  have qm : ∀ w, (Op.equalIn 9999 23 (.agg (hcells a.mac).toArray) (.agg (hcells b.mac).toArray)).run Tryd.prog w = .ok (decide (a.mac = b.mac)) w := fun w => eq_sumd 9997 _ _ ha2 hb2 w
  unfold Hd.v
  rw [run_equalIn_struct w 9999 _ _ _ (by kernel_rfl) (by kernel_rfl)]
  unfold Program.fieldsOf
  rw [Tryd.underlying25]
  by_cases h1 : a.size = b.size
  · by_cases h2 : a.root = b.root
    · by_cases h3 : a.clock = b.clock
      · by_cases h4 : a.mac = b.mac
        · obtain rfl : a = b := by cases a; cases b; simp_all
          simp [Op.eqFields, Sem.run_bind, Sem.run_ite, p0, p1 a ha, p2 a ha, p3 a ha ha2, qi, qs, qm, Result.andThen_ok]
        · have : a ≠ b := fun e => h4 (by rw [e])
          rw [h2] at qs
          simp [Op.eqFields, Sem.run_bind, Sem.run_ite, p0, p1 a ha, p2 a ha, p3 a ha ha2, p1 b hb, p2 b hb, p3 b hb hb2, qi, qs, qm, h1, h2, h3, h4, this, Result.andThen_ok]
      · have : a ≠ b := fun e => h3 (by rw [e])
        rw [h2] at qs
        simp [Op.eqFields, Sem.run_bind, Sem.run_ite, p0, p1 a ha, p2 a ha, p1 b hb, p2 b hb, qi, qs, h1, h2, h3, this, Result.andThen_ok]
    · have : a ≠ b := fun e => h2 (by rw [e])
      simp [Op.eqFields, Sem.run_bind, Sem.run_ite, p0, p1 a ha, p1 b hb, qi, qs, h1, h2, this, Result.andThen_ok]
  · have : a ≠ b := fun e => h1 (by rw [e])
    simp [Op.eqFields, Sem.run_bind, Sem.run_ite, p0, qi, h1, this, Result.andThen_ok]
theorem eq_st (a b : St) (ha : a.fz.root.length = 32) (hb : b.fz.root.length = 32) (ha2 : a.mac.length = 32) (hb2 : b.mac.length = 32) (w : World) : (Op.equalIn 10000 29 a.v b.v).run Tryd.prog w = .ok (decide (a = b)) w := by
  have p0 : ∀ (f : St) (h : f.fz.root.length = 32) w, (part 27 f.cells.toArray 0).run Tryd.prog w = .ok f.fz.v w := fun f h w => by
    have := part_f [] ([.int .i64 f.at_] ++ (hcells f.mac ++ [])) f.fz h 0 rfl w
    rw [List.nil_append] at this
    unfold St.cells
    exact this
  have p1 : ∀ (f : St) (h : f.fz.root.length = 32) w, (part 3 f.cells.toArray 34).run Tryd.prog w = .ok (.int .i64 f.at_) w := fun f h w => part_i f.fz.cells (hcells f.mac ++ []) _ 34 (by rw [Fz.cells_length _ h]) w
  have p2 : ∀ (f : St) (h : f.fz.root.length = 32) (h2 : f.mac.length = 32) w, (part 23 f.cells.toArray 35).run Tryd.prog w = .ok (.agg (hcells f.mac).toArray) w := fun f h h2 w => by
    unfold St.cells
    rw [← List.append_assoc]
    exact part_s (f.fz.cells ++ [.int .i64 f.at_]) [] f.mac h2 35 (by simp [Fz.cells_length _ h]) w
  have qi : ∀ (x y : Int) w, (Op.equalIn 9999 3 (.int .i64 x) (.int .i64 y)).run Tryd.prog w = .ok (x == y) w := fun x y w => eq_intd 9998 x y w
  have qf : ∀ w, (Op.equalIn 9999 27 a.fz.v b.fz.v).run Tryd.prog w = .ok (decide (a.fz = b.fz)) w := fun w => eq_fzd 9996 _ _ ha hb w
  have qm : ∀ w, (Op.equalIn 9999 23 (.agg (hcells a.mac).toArray) (.agg (hcells b.mac).toArray)).run Tryd.prog w = .ok (decide (a.mac = b.mac)) w := fun w => eq_sumd 9997 _ _ ha2 hb2 w
  unfold St.v
  rw [run_equalIn_struct w 9999 _ _ _ (by kernel_rfl) (by kernel_rfl)]
  unfold Program.fieldsOf
  rw [Tryd.underlying29]
  by_cases h1 : a.fz = b.fz
  · by_cases h2 : a.at_ = b.at_
    · by_cases h3 : a.mac = b.mac
      · obtain rfl : a = b := by cases a; cases b; simp_all
        simp [Op.eqFields, Sem.run_bind, Sem.run_ite, p0 a ha, p1 a ha, p2 a ha ha2, qi, qf, qm, Result.andThen_ok]
      · have : a ≠ b := fun e => h3 (by rw [e])
        rw [h1] at qf
        simp [Op.eqFields, Sem.run_bind, Sem.run_ite, p0 a ha, p1 a ha, p2 a ha ha2, p0 b hb, p1 b hb, p2 b hb hb2, qi, qf, qm, h1, h2, h3, this, Result.andThen_ok]
    · have : a ≠ b := fun e => h2 (by rw [e])
      rw [h1] at qf
      simp [Op.eqFields, Sem.run_bind, Sem.run_ite, p0 a ha, p1 a ha, p0 b hb, p1 b hb, qi, qf, h1, h2, this, Result.andThen_ok]
  · have : a ≠ b := fun e => h1 (by rw [e])
    simp [Op.eqFields, Sem.run_bind, Sem.run_ite, p0 a ha, p0 b hb, qf, h1, this, Result.andThen_ok]
theorem guard_fz : Tryd.prog.eqGuardType Tryd.prog.depth 27 = false := by kernel_rfl
theorem guard_hd : Tryd.prog.eqGuardType Tryd.prog.depth 25 = false := by kernel_rfl
theorem guard_st : Tryd.prog.eqGuardType Tryd.prog.depth 29 = false := by kernel_rfl
end Go.Proofs.YtcgnjdkennkheaaDoor
