/-
  Twins, plainly: two ways that meet have twins.
-/
import Derived.Test.YtfpipdopgepelaaDoorTwin5
set_option linter.unusedVariables false
set_option maxRecDepth 100000
set_option linter.unusedSimpArgs false
namespace Go.Proofs.YtfpipdopgepelaaDoor
open Go.ChangeShapes Go.WideShapes Go.ChangeAt Go.RowKit
attribute [local go_sem] bs_size bs_toList2 bs_append bs_extract_end bs_extract_begin bs_get wrap64_b grow_cell grow_frozen

theorem blk_mid {w : World} {g : Nat} {t : TypeId} {l : List (List UInt8)} (h : Blk w g t (flatS l).toArray) (hl : AllH l) (k : Nat) (hk : k < l.length) : w.rangeAt g (k * 32) (hcells l[k]) := fun j v hv => by
  rw [Blk.cell h]
  have := flatS_get l hl k hk j v hv
  simpa using this
theorem pre_inj {a b c d : List UInt8} (ha : a.length = 32) (hc : c.length = 32) (h : preB a b = preB c d) : a = c ∧ b = d := by
  unfold preB at h
  injection h with _ h
  exact List.append_inj h (by omega)
theorem twC_some (a b : List UInt8) : twC (some (a, b)) = #[.string (bs a), .string (bs b)] := rfl
theorem first_same (l : List (List UInt8)) : firstO l l = none := by
  unfold firstO Way.first
  rw [List.find?_eq_none]
  rintro ⟨a, b⟩ h
  have : a = b := by
    rw [List.zip_eq_zipWith] at h
    simp only [List.zipWith_self, List.mem_map] at h
    obtain ⟨c, _, h⟩ := h
    injection h with h1 h2
    exact h1.symm.trans h2
  subst this
  simp [Way.twinB]
/-- Two unlike ways that come to one hash have twins. -/
theorem meet32 : ∀ (ts : List Bool) (hs gs : List (List UInt8)) (x y : List UInt8), x.length = 32 → y.length = 32 → AllH hs → AllH gs → ts.length = hs.length → ts.length = gs.length →
    Way.foldW nodeB x ts hs = Way.foldW nodeB y ts gs → (x ≠ y ∨ hs ≠ gs) → (firstO (wayS x ts hs) (wayS y ts gs)).isSome = true
  | [], [], [], x, y, _, _, _, _, _, _, hf, hne => by
    rcases hne with h | h
    · exact absurd hf h
    · exact absurd rfl h
  | [], _ :: _, _, x, y, _, _, _, _, h1, _, _, _ => by simp at h1
  | [], [], _ :: _, x, y, _, _, _, _, _, h2, _, _ => by simp at h2
  | _ :: _, [], _, x, y, _, _, _, _, h1, _, _, _ => by simp at h1
  | _ :: _, _ :: _, [], x, y, _, _, _, _, _, h2, _, _ => by simp at h2
  | t :: ts, h :: hs, g :: gs, x, y, hx, hy, hh, hg, h1, h2, hf, hne => by
    have h32 : h.length = 32 := hh _ (by simp)
    have g32 : g.length = 32 := hg _ (by simp)
    rw [Way.foldW_cons, Way.foldW_cons] at hf
    have e1 : ∀ a b : List UInt8, (if t then nodeB b a else nodeB a b) = shaOf (if t then preB b a else preB a b) := fun a b => by cases t <;> rfl
    rw [e1, e1] at hf
    have w1 : wayS x (t :: ts) (h :: hs) = (if t then preB h x else preB x h) :: wayS (shaOf (if t then preB h x else preB x h)) ts hs := rfl
    have w2 : wayS y (t :: ts) (g :: gs) = (if t then preB g y else preB y g) :: wayS (shaOf (if t then preB g y else preB y g)) ts gs := rfl
    rw [w1, w2]
    generalize hs0 : (if t then preB h x else preB x h) = s at *
    generalize hu0 : (if t then preB g y else preB y g) = u at *
    have hstep : firstO (s :: wayS (shaOf s) ts hs) (u :: wayS (shaOf u) ts gs) = if areB s u then some (s, u) else firstO (wayS (shaOf s) ts hs) (wayS (shaOf u) ts gs) :=
      first_step (s :: wayS (shaOf s) ts hs) (u :: wayS (shaOf u) ts gs) 0 (by simp) (by simp)
    rw [hstep]
    by_cases hsu : s = u
    · have hxy : x = y ∧ h = g := by
        rw [← hs0, ← hu0] at hsu
        split at hsu
        · exact (pre_inj h32 g32 hsu).symm
        · exact pre_inj hx hy hsu
      obtain ⟨rfl, rfl⟩ := hxy
      have hne2 : hs ≠ gs := by
        rcases hne with h' | h'
        · exact absurd rfl h'
        · exact fun e => h' (by rw [e])
      subst hsu
      rw [areB_same]
      exact meet32 ts hs gs _ _ (shaOf_length _) (shaOf_length _) hh.tail hg.tail (by simpa using h1) (by simpa using h2) hf (.inr hne2)
    · by_cases hc : shaOf s = shaOf u
      · have : areB s u = true := by
          unfold areB
          have : (s == u) = false := by rw [beq_eq_false_iff_ne]; exact hsu
          rw [this, hc]
          simp
        rw [this]
        rfl
      · have : areB s u = false := by unfold areB; simp [hc]
        rw [this]
        exact meet32 ts hs gs _ _ (shaOf_length _) (shaOf_length _) hh.tail hg.tail (by simpa using h1) (by simpa using h2) hf (.inl hc)
theorem first_facts {a b : List (List UInt8)} (h : (firstO a b).isSome = true) (n : Nat) (ha : ∀ s ∈ a, s.length = n) (hb : ∀ s ∈ b, s.length = n) : ∃ p q, firstO a b = some (p, q) ∧ p ≠ q ∧ shaOf p = shaOf q ∧ p.length = n ∧ q.length = n := by
  cases hf : firstO a b with
  | none => rw [hf] at h; cases h
  | some pq =>
    obtain ⟨p, q⟩ := pq
    obtain ⟨h1, h2⟩ := Way.first_some shaOf hf
    exact ⟨p, q, rfl, h1, h2, ha _ (first_mem hf).1, hb _ (first_mem hf).2⟩

set_option maxHeartbeats 2000000 in
theorem refFold_none' (r : List UInt8) (hr : r.length = 32) (m n : Int) (A : Option Addr) (cap : Nat) (l : List (List UInt8)) (hl : AllH l) (hll : l.length ≤ 9223372036854775807) (w : World) (hrd : Rd w w.heap.size A (flatS l))
    (hlg : Way.longI m n ≠ (l.length : Int)) : Calls Tryd.prog 19 #[sumV r, .int .i64 m, .int .i64 n, .slice A l.length cap] w fun e w' => e = .returned (.tuple #[sumV (zerosB 32), .bool false]) ∧ Ext w w' := by
  have hfold := fold_sum r hr
  unfold sumV
  go_enter Tryd.func19, Tryd.ntmps19
  go_wp2_with fail
  have hX0 : ArrB ((w.alloc (.cells (r.map byteV).toArray 23)).alloc (.cells ((zerosB 32).map byteV).toArray 23)) w.heap.size 23 r := Blk.alloc (Blk.new _ _ _) _
  have hZ0 : ArrB ((w.alloc (.cells (r.map byteV).toArray 23)).alloc (.cells ((zerosB 32).map byteV).toArray 23)) (w.heap.size + 1) 23 (zerosB 32) := by
    have := Blk.new (w.alloc (.cells (r.map byteV).toArray 23)) 23 ((zerosB 32).map byteV).toArray
    rw [alloc_size] at this
    exact this
  have hE0 : Ext w ((w.alloc (.cells (r.map byteV).toArray 23)).alloc (.cells ((zerosB 32).map byteV).toArray 23)) := ((Ext.refl w).alloc _).alloc _
  change Calls _ _ _ ((w.alloc (.cells (r.map byteV).toArray 23)).alloc (.cells ((zerosB 32).map byteV).toArray 23)) _
  generalize (w.alloc (.cells (r.map byteV).toArray 23)).alloc (.cells ((zerosB 32).map byteV).toArray 23) = w1 at *
  refine (refLong_calls m n _).mono ?_; rintro e w2 ⟨rfl, e2⟩
  have hX2 := Blk.below hX0 e2 (Blk.lt hX0)
  have hZ2 := Blk.below hZ0 e2 (Blk.lt hZ0)
  have hE2 := hE0.trans e2
  have hxl := Blk.lt hX0
  have hzl := Blk.lt hZ0
  have hs1 := hE0.size
  have hs2 := e2.size
  clear hX0 hZ0 hE0 e2
  have dl : (Way.longI m n != (l.length : Int)) = true := by simpa using hlg
  generalize Way.longI m n = L at *
  have hzz : (zerosB 32).length = 32 := rfl
  go_wp2_with (refine stop_store 23 (.tmp 8) (.tmp 18) rfl ?_)
  refine ⟨?_⟩
  refine wpList_store_row rfl 23 (.tmp 8) (.tmp 18) rfl (w.heap.size + 1) ((zerosB 32).map byteV).toArray (by rfl) (by rfl) 23 _ hZ2 (size32.trans (by simp [hzz])) (by simp [hzz, hzz]) (by simp [byteV, Value.oneCell']) ?_
  simp only [Act.put, List.setIfInBounds_toArray, List.set_cons_zero, List.set_cons_succ]
  have hR6 : ArrB (w2.setRow (w.heap.size + 1) ((zerosB 32).map byteV).toArray) (w.heap.size + 1) 23 (zerosB 32) := Blk.row hZ2 _
  have hR6u : Upd (w.heap.size + 1) w2 (w2.setRow (w.heap.size + 1) ((zerosB 32).map byteV).toArray) := (Upd.refl _ _).row _
  generalize w2.setRow (w.heap.size + 1) ((zerosB 32).map byteV).toArray = w6 at *
  go_wp2_with fail
  (try simp only [Exit.inBlock, Exit.then]); refine bodyPost_ret (res_cell_t rfl _ _ (w.heap.size + 1) 23 _ _ rfl hR6 Tryd.underlying23 rfl (size32.trans (by simp [hzz]))) rfl ?_
  have hk6 : Keep (fun k => k < w.heap.size) w w6 := (Keep.of_ext hE2).trans (Keep.of_upd hR6u (fun h => absurd h (by omega)))
  exact ⟨rfl, hk6.ext⟩

theorem long_le (m n : Int) (h : n ≤ 1000000) : Way.longI m n ≤ 1000000 := by
  unfold Way.longI
  split
  · omega
  · have := Way.down_length false n.toNat m.toNat
    omega
theorem fold_len (r : List UInt8) (m n : Int) (l : List (List UInt8)) (hn : n ≤ 1000000) (h : (foldP r m n l).2 = true) : l.length ≤ 1000000 := by
  have := long_le m n hn
  unfold foldP at h
  split at h
  · omega
  · cases h
theorem refFold_any (r : List UInt8) (hr : r.length = 32) (m n : Int) (hn : n ≤ 1000000) (v : Value) (l : List (List UInt8)) (hl : AllH l) (w : World) (h : SlS w w.heap.size v l) :
    Calls Tryd.prog 19 #[sumV r, .int .i64 m, .int .i64 n, v] w fun e w' => e = .returned (.tuple #[sumV (foldP r m n l).1, .bool (foldP r m n l).2]) ∧ Ext w w' := by
  obtain ⟨A, cap, rfl, hA0, hc, hc63, hr'⟩ := h
  by_cases hlg : Way.longI m n = (l.length : Int)
  · have := long_le m n hn
    exact refFold_calls r hr m n A cap l hl (by omega) w hr'
  · rw [show foldP r m n l = _ from if_neg hlg]
    exact refFold_none' r hr m n A cap l hl (by omega) w hr' hlg

end Go.Proofs.YtfpipdopgepelaaDoor
