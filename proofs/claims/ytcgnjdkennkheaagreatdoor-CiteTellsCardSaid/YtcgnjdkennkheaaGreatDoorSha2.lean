/-
  The walk of sha.Step.
-/
import Derived.Test.YtcgnjdkennkheaaGreatDoorSha
set_option linter.unusedVariables false
set_option maxRecDepth 100000
set_option linter.unusedSimpArgs false
namespace Go.Proofs.YtcgnjdkennkheaaGreatDoor
open Go.RowKit
attribute [local go_sem] bs_size bs_toList2 bs_append bs_extract_end bs_extract_begin bs_get wrap64_b grow_cell grow_frozen

theorem wat_some {l : List Int} {i : Nat} (h : i < l.length) : l[i]? = some (wat l i) := by simp [wat, h]
theorem index64 (l : List Int) (hl : l.length = 64) (i : Nat) (hi : i < 64) (W : World) : (Instr.index 146 (.agg (l.map wordV).toArray) (.int .i64 (i : Int))).run Tryz.prog W = .ok (.int .u32 (wat l i)) W := by
  have h1 : (i : Int) < 64 := by omega
  have h0 : (0 : Int) ≤ (i : Int) := by omega
  have hg := wat_some (l := l) (i := i) (by omega)
  unfold Instr.index
  simp [go_sem, Tryz.underlying146, Tryz.underlying124, h0, h1, hg, hi, wordV]
theorem index8 (l : List Int) (hl : l.length = 8) (i : Nat) (hi : i < 8) (W : World) : (Instr.index 125 (.agg (l.map wordV).toArray) (.int .i64 (i : Int))).run Tryz.prog W = .ok (.int .u32 (wat l i)) W := by
  have h1 : (i : Int) < 8 := by omega
  have h0 : (0 : Int) ≤ (i : Int) := by omega
  have hg := wat_some (l := l) (i := i) (by omega)
  unfold Instr.index
  simp [go_sem, Tryz.underlying125, Tryz.underlying124, h0, h1, hg, hi, wordV]

theorem turn1_calls (x : Int) (w : World) : Calls Tryz.prog 139 #[.int .u32 x, .int .i64 6, .int .i64 11, .int .i64 25] w fun e w' => e = .returned (.int .u32 (turn x 6 11 25)) ∧ w = w' := turn_calls x 6 11 25 w (by omega) (by omega) (by omega)
theorem turn2_calls (x : Int) (w : World) : Calls Tryz.prog 139 #[.int .u32 x, .int .i64 2, .int .i64 13, .int .i64 22] w fun e w' => e = .returned (.int .u32 (turn x 2 13 22)) ∧ w = w' := turn_calls x 2 13 22 w (by omega) (by omega) (by omega)
def xorW (x y : Int) : Int := Go.bits BinOp.xor IntKind.u32 x y
def andW (x y : Int) : Int := Go.bits BinOp.and IntKind.u32 x y
def rndOne (W v : List Int) (t : Nat) : Int := (wat v 7 + turn (wat v 4) 6 11 25 + xorW (andW (wat v 4) (wat v 5)) (andW (xorW IntKind.u32.max (wat v 4)) (wat v 6)) + wat keyList t + wat W t) % 4294967296
def rndTwo (v : List Int) : Int := (turn (wat v 0) 2 13 22 + xorW (xorW (andW (wat v 0) (wat v 1)) (andW (wat v 0) (wat v 2))) (andW (wat v 1) (wat v 2))) % 4294967296
def rnd (W v : List Int) (t : Nat) : List Int := [(rndOne W v t + rndTwo v) % 4294967296, wat v 0, wat v 1, wat v 2, (wat v 3 + rndOne W v t) % 4294967296, wat v 4, wat v 5, wat v 6]
def rounds (W s : List Int) : Nat → List Int
  | 0 => s
  | t + 1 => rnd W (rounds W s t) t

def addK (s v : List Int) : Nat → List Int
  | 0 => s
  | k + 1 => (addK s v k).set k ((wat (addK s v k) k + wat v k) % 4294967296)
theorem addK_length (s v : List Int) (k : Nat) : (addK s v k).length = s.length := by
  induction k with
  | zero => rfl
  | succ k ih => simp [addK, ih]
def eight (v : List Int) : List Int := [wat v 0, wat v 1, wat v 2, wat v 3, wat v 4, wat v 5, wat v 6, wat v 7]
def step (s b : List Int) : List Int := addK s (eight (rounds (schedK b 48) s 64)) 8
theorem step_length (s b : List Int) : (step s b).length = s.length := addK_length _ _ _
theorem index8L (v : List Int) (k : Nat) (hk : k < 8) (W : World) : (Instr.index 125 (.agg #[.int .u32 (wat v 0), .int .u32 (wat v 1), .int .u32 (wat v 2), .int .u32 (wat v 3), .int .u32 (wat v 4), .int .u32 (wat v 5), .int .u32 (wat v 6), .int .u32 (wat v 7)]) (.int .i64 (k : Int))).run Tryz.prog W = .ok (.int .u32 (wat (eight v) k)) W :=
  index8 (eight v) rfl k hk W

theorem keys_range {w : World} (K : Keys w) : w.rangeAt 0 0 (keyList.map wordV) := fun j v hj => by
  rw [List.getElem?_map] at hj
  obtain ⟨x, hx, rfl⟩ := Option.map_eq_some_iff.1 hj
  have hlt : j < 64 := (List.getElem?_eq_some_iff.1 hx).1
  rw [Nat.zero_add, K j hlt]
  simp [wordV, hx]

set_option maxRecDepth 100000 in
set_option maxHeartbeats 2000000 in
theorem Step_calls (s b : List Int) (hs : s.length = 8) (hb : b.length = 16) (w : World) (K : Keys w) :
    Calls Tryz.prog 132 #[.agg (s.map wordV).toArray, .agg (b.map wordV).toArray] w fun e w' => e = .returned (.agg ((step s b).map wordV).toArray) ∧ Ext w w' := by
  go_enter Tryz.func132, Tryz.ntmps132
  have hl16 := size16
  have hsz : (b.map wordV).length = 16 := by simpa using hb
  have hB : Arr (((w.alloc (.cells (s.map wordV).toArray 125)).alloc (.cells (b.map wordV).toArray 127)).alloc (.cells ((zeros 8).map wordV).toArray 125)) (w.heap.size + 1) 127 b := by
    have := Blk.new (w.alloc (.cells (s.map wordV).toArray 125)) 127 (b.map wordV).toArray
    rw [alloc_size] at this
    exact Blk.alloc this _
  have hS : Arr (((w.alloc (.cells (s.map wordV).toArray 125)).alloc (.cells (b.map wordV).toArray 127)).alloc (.cells ((zeros 8).map wordV).toArray 125)) w.heap.size 125 s := Blk.alloc (Blk.alloc (Blk.new w _ _) _) _
  have hR : Arr (((w.alloc (.cells (s.map wordV).toArray 125)).alloc (.cells (b.map wordV).toArray 127)).alloc (.cells ((zeros 8).map wordV).toArray 125)) (w.heap.size + 2) 125 (zeros 8) := by
    have := Blk.new ((w.alloc (.cells (s.map wordV).toArray 125)).alloc (.cells (b.map wordV).toArray 127)) 125 ((zeros 8).map wordV).toArray
    rw [alloc_size, alloc_size] at this
    exact this
  have hE0 := (((Ext.refl w).alloc (.cells (s.map wordV).toArray 125)).alloc (.cells (b.map wordV).toArray 127)).alloc (.cells ((zeros 8).map wordV).toArray 125)
  go_wp2_with (refine stop_load 127 (.tmp 3) rfl ?_)
  refine ⟨?_⟩
  change wpList _ _ _ _ _ (((w.alloc (.cells (s.map wordV).toArray 125)).alloc (.cells (b.map wordV).toArray 127)).alloc (.cells ((zeros 8).map wordV).toArray 125))
  generalize (((w.alloc (.cells (s.map wordV).toArray 125)).alloc (.cells (b.map wordV).toArray 127)).alloc (.cells ((zeros 8).map wordV).toArray 125)) = w0 at *
  refine wpList_load_row rfl 127 (.tmp 3) rfl (w.heap.size + 1) (by rfl) 127 _ (0, 0) _ hB Tryz.underlying127 rfl (size16.trans (by simp [hb])) ?_
  simp only [Act.put, List.setIfInBounds_toArray, List.set_cons_zero, List.set_cons_succ]
  go_wp2_with fail
  go_at_call 138
  (with_reducible refine (schedule_calls b hb _).mono ?_); rintro e w1 ⟨rfl, hE1⟩
  have hS1 : Arr w1 w.heap.size 125 s := Blk.below hS hE1 hS.lt
  have hR1 : Arr w1 (w.heap.size + 2) 125 (zeros 8) := Blk.below hR hE1 hR.lt
  have hE2 : Ext w w1 := hE0.trans hE1
  have hlt1 : w.heap.size + 2 < w1.heap.size := hR1.lt
  clear hB hS hR hE0 hE1
  go_wp2_with (refine stop_store 146 (.tmp 5) (.tmp 21) rfl ?_)
  refine ⟨?_⟩
  change wpList _ _ _ _ _ (w1.alloc (.cells ((zeros 64).map wordV).toArray 146))
  refine wpList_store_row rfl 146 (.tmp 5) (.tmp 21) rfl w1.heap.size _ (by rfl) (by rfl) 146 _ (heap_alloc_new _ _) (size64.trans (by simp [schedK_length b hb])) (by simp [schedK_length b hb, zeros]) (by simp [wordV, Value.oneCell']) ?_
  simp only [Act.put, List.setIfInBounds_toArray, List.set_cons_zero, List.set_cons_succ]
  have hW : Arr ((w1.alloc (.cells ((zeros 64).map wordV).toArray 146)).setRow w1.heap.size ((schedK b 48).map wordV).toArray) w1.heap.size 146 (schedK b 48) := Blk.row (Blk.new w1 _ _) _
  have hS2 : Arr ((w1.alloc (.cells ((zeros 64).map wordV).toArray 146)).setRow w1.heap.size ((schedK b 48).map wordV).toArray) w.heap.size 125 s := Blk.rowFar (Blk.alloc hS1 _) (by omega) _
  have hR2 : Arr ((w1.alloc (.cells ((zeros 64).map wordV).toArray 146)).setRow w1.heap.size ((schedK b 48).map wordV).toArray) (w.heap.size + 2) 125 (zeros 8) := Blk.rowFar (Blk.alloc hR1 _) (by omega) _
  have hE3 : Ext w ((w1.alloc (.cells ((zeros 64).map wordV).toArray 146)).setRow w1.heap.size ((schedK b 48).map wordV).toArray) := (hE2.alloc _).row (by omega) _
  generalize (w1.alloc (.cells ((zeros 64).map wordV).toArray 146)).setRow w1.heap.size ((schedK b 48).map wordV).toArray = w3 at *
  generalize hg5 : w1.heap.size = g5 at *
  clear hS1 hR1 hE2 hg5
  have hsl : w.heap.size < w3.heap.size := hS2.lt
  have c0 := hS2.cell 0 (by omega)
  have c1 := hS2.cell 1 (by omega)
  have c2 := hS2.cell 2 (by omega)
  have c3 := hS2.cell 3 (by omega)
  have c4 := hS2.cell 4 (by omega)
  have c5 := hS2.cell 5 (by omega)
  have c6 := hS2.cell 6 (by omega)
  have c7 := hS2.cell 7 (by omega)
  go_wp2_with fail
  refine region_mix0 (by kernel_rfl) (by kernel_rfl) (fun x => ?_)
  repeat (first | (refine mix_quiet (by rfl) (by rfl) (fun K hK => ?_); go_big_quiet_op; refine hK _ ?_; clear hK K) | (refine mix_skip (by rfl) ?_; simp only [Act.put, List.setIfInBounds_toArray, List.set_cons_zero, List.set_cons_succ]))
  refine mix_nil ?_
  go_wp2_with fail
  have d4 := (grow_cell x _ 4 hsl).trans c4
  have d5 := (grow_cell x _ 5 hsl).trans c5
  have d6 := (grow_cell x _ 6 hsl).trans c6
  have d7 := (grow_cell x _ 7 hsl).trans c7
  have hW3 : Arr (grow w3 x) g5 146 (schedK b 48) := Blk.grow x hW
  have hS3 : Arr (grow w3 x) w.heap.size 125 s := Blk.grow x hS2
  have hR3 : Arr (grow w3 x) (w.heap.size + 2) 125 (zeros 8) := Blk.grow x hR2
  have hE4 : Ext w (grow w3 x) := hE3.trans (grow_ext x)
  have hsl3 : w.heap.size < (grow w3 x).heap.size := hS3.lt
  clear c0 c1 c2 c3 c4 c5 c6 c7 hsl hW hS2 hR2 hE3
  generalize grow w3 x = w4 at *
  clear x w3
  refine region_mix0 (by kernel_rfl) (by kernel_rfl) (fun x => ?_)
  repeat (first | (refine mix_quiet (by rfl) (by rfl) (fun K hK => ?_); go_big_quiet_op; refine hK _ ?_; clear hK K) | (refine mix_skip (by rfl) ?_; simp only [Act.put, List.setIfInBounds_toArray, List.set_cons_zero, List.set_cons_succ]))
  refine mix_nil ?_
  have hW5 : Arr (grow w4 x) g5 146 (schedK b 48) := Blk.grow x hW3
  have hS5 : Arr (grow w4 x) w.heap.size 125 s := Blk.grow x hS3
  have hR5 : Arr (grow w4 x) (w.heap.size + 2) 125 (zeros 8) := Blk.grow x hR3
  have hE5 : Ext w (grow w4 x) := hE4.trans (grow_ext x)
  clear d4 d5 d6 d7 hsl3 hW3 hS3 hR3 hE4
  generalize grow w4 x = w5 at *
  clear x w4
  have hkr := keys_range (K.ext hE5)
  go_wp2_with (refine stop_load 146 (.global 0) rfl ?_)
  refine ⟨?_⟩
  refine wpList_load_mid rfl 146 (.global 0) rfl 0 0 rfl _ _ hkr Tryz.underlying146 rfl (size64.trans rfl) ?_
  simp only [Act.put, List.setIfInBounds_toArray, List.set_cons_zero, List.set_cons_succ]
  clear hkr
  go_wp2_with fail
  go_loopw [6, 7, 8, 9, 10, 11, 12, 13, 39] (fun a b' c d e f g h t wr => ∃ k : Nat, k ≤ 64 ∧ t = .int .i64 (k : Int) ∧ a = .int .u32 (wat (rounds (schedK b 48) s k) 0) ∧ b' = .int .u32 (wat (rounds (schedK b 48) s k) 1) ∧ c = .int .u32 (wat (rounds (schedK b 48) s k) 2) ∧ d = .int .u32 (wat (rounds (schedK b 48) s k) 3) ∧ e = .int .u32 (wat (rounds (schedK b 48) s k) 4) ∧ f = .int .u32 (wat (rounds (schedK b 48) s k) 5) ∧ g = .int .u32 (wat (rounds (schedK b 48) s k) 6) ∧ h = .int .u32 (wat (rounds (schedK b 48) s k) 7) ∧ Arr wr g5 146 (schedK b 48) ∧ Arr wr w.heap.size 125 s ∧ Arr wr (w.heap.size + 2) 125 (zeros 8) ∧ Ext w wr) (fun _ _ _ _ _ _ _ _ t _ => 64 - (intOf t).toNat)
  case atStart => exact ⟨0, Nat.zero_le _, rfl, rfl, rfl, rfl, rfl, rfl, rfl, rfl, rfl, hW5, hS5, hR5, hE5⟩
  case round =>
    obtain ⟨k, hk, rfl, rfl, rfl, rfl, rfl, rfl, rfl, rfl, rfl, hA, hS, hR, hE⟩ := hrel
    by_cases hlt : k < 64
    · have hix := index64 keyList rfl k hlt
      have hcell := hA.cell k (by rw [schedK_length b hb]; exact hlt)
      have hgl : g5 < wr.heap.size := hA.lt
      have hkt : (k : Int) < 64 := by omega
      go_wp2_with fail
      refine region_mix0 (by kernel_rfl) (by kernel_rfl) (fun x => ?_)
      repeat (first | (refine mix_quiet (by rfl) (by rfl) (fun K hK => ?_); go_big_quiet_op; refine hK _ ?_; clear hK K) | (refine mix_skip (by rfl) ?_; simp only [Act.put, List.setIfInBounds_toArray, List.set_cons_zero, List.set_cons_succ]))
      (refine mix_loud (by rfl) (by rfl) (fun K E hK => ?_); go_big_op)
      (with_reducible refine (turn1_calls _ _).mono ?_); rintro e w3 ⟨rfl, hd⟩
      obtain ⟨x1, rfl⟩ := more_same x hd; clear hd
      refine hK _ _ ⟨_, rfl⟩ ?_; clear hK K E
      repeat (first | (refine mix_quiet (by rfl) (by rfl) (fun K hK => ?_); go_big_quiet_op; refine hK _ ?_; clear hK K) | (refine mix_skip (by rfl) ?_; simp only [Act.put, List.setIfInBounds_toArray, List.set_cons_zero, List.set_cons_succ]))
      refine mix_nil ?_
      go_wp2_with fail
      go_at_call 139
      (with_reducible refine (turn2_calls _ _).mono ?_); rintro e w3 ⟨rfl, rfl⟩
      go_wp2_with fail
      clear hix hcell hgl hkt
      go_roundw
      case rel => exact ⟨k + 1, by omega, by go_num, rfl, rfl, rfl, rfl, rfl, rfl, rfl, rfl, Blk.grow x1 hA, Blk.grow x1 hS, Blk.grow x1 hR, hE.trans (grow_ext x1)⟩
      case measure => simp [intOf]; omega
    · obtain rfl : k = 64 := by omega
      have hv : ∃ v, v = rounds (schedK b 48) s 64 := ⟨_, rfl⟩
      obtain ⟨v, hv⟩ := hv
      rw [← hv]
      have Hv := Lib.hid hv; clear hv
      clear hA
      go_wp2_with fail
      have hA0 : Arr wr w.heap.size 125 (addK s (eight v) 0) := hS
      go_loopw [98] (fun t wr => ∃ k : Nat, k ≤ 8 ∧ t = .int .i64 (k : Int) ∧ Arr wr w.heap.size 125 (addK s (eight v) k) ∧ Arr wr (w.heap.size + 2) 125 (zeros 8) ∧ Ext w wr) (fun t _ => 8 - (intOf t).toNat)
      case atStart => exact ⟨0, Nat.zero_le _, rfl, hA0, hR, hE⟩
      case round =>
        clear hS hR hE hA0
        obtain ⟨wo, rfl⟩ : ∃ wo : World, wo = wr := ⟨_, rfl⟩
        obtain ⟨k, hk, rfl, hS, hR, hE⟩ := hrel
        by_cases hlt : k < 8
        · have hix := index8L v k hlt
          have hl := addK_length s (eight v) k
          have hcell := hS.cell k (by omega)
          have hfr := Blk.frozen hS k
          have hkt : (k : Int) < 8 := by omega
          go_wp2_with fail
          go_roundw
          case rel => exact ⟨k + 1, by omega, by go_num, Arr.set hS k _, Blk.far hR (by simp) _, hE.setCell (by simp) _⟩
          case measure => simp [intOf]; omega
        · obtain rfl : k = 8 := by omega
          have hl := addK_length s (eight v) 8
          go_wp2_with (refine stop_load 125 (.tmp 2) rfl ?_)
          refine ⟨?_⟩
          refine wpList_load_row rfl 125 (.tmp 2) rfl w.heap.size (by rfl) 125 _ (0, 0) _ hS Tryz.underlying125 rfl (size8.trans (by simp [hl, hs])) ?_
          refine wpList_store_row rfl 125 (.tmp 4) (.tmp 109) rfl (w.heap.size + 2) _ (by rfl) (by rfl) 125 _ hR (size8.trans (by simp [hl, hs])) (by simp [hl, hs, zeros]) (by simp [wordV, Value.oneCell']) ?_
          simp only [Act.put, List.setIfInBounds_toArray, List.set_cons_zero, List.set_cons_succ]
          go_wp2_with fail
          refine bodyPost_ret (results_cell_row rfl _ _ (w.heap.size + 2) 125 _ (0, 0) _ rfl (Blk.row hR _) Tryz.underlying125 rfl (size8.trans (by simp [hl, hs]))) rfl ⟨?_, hE.row (by omega) _⟩
          unfold step
          rw [← Hv.out]

end Go.Proofs.YtcgnjdkennkheaaGreatDoor
