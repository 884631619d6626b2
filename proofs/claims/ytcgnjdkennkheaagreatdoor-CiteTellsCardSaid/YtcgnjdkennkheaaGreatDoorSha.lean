/-
  The walks of layer 2 (sha).
-/
import Derived.Test.YtcgnjdkennkheaaGreatDoorKeys
import Derived.Test.YtcgnjdkennkheaaGreatDoorBld
import Derived.Deep.QuietTactic
import Derived.BigQuiet
import Derived.Lib.Hide
import Derived.Deep.DeepFit
import Derived.Deep.RegionLaw
import Derived.Deep.MidRow
import Derived.Test.YtcgnjdkennkheaaGreatDoorMix
import Derived.Laws.CopyOwn
set_option linter.unusedVariables false
set_option maxRecDepth 100000
set_option linter.unusedSimpArgs false
namespace Go.Proofs.YtcgnjdkennkheaaGreatDoor
open Go.RowKit
attribute [local go_sem] bs_size bs_toList2 bs_append bs_extract_end bs_extract_begin bs_get wrap64_b grow_cell grow_frozen

/-- A callee that leaves the world alone, in a region of reads. -/
theorem quiet_eq {P : Program} {f : FuncId} {args : Array Value} {w : World} {n : Nat} {v : Value} (h : Calls P f args (w.drewN n) fun e w' => e = .returned v ∧ w.drewN n = w') :
    Calls P f args (w.drewN n) fun e w'' => e = .returned v ∧ ∃ m, w'' = w.drewN m := h.mono fun _ _ ⟨he, hm⟩ => ⟨he, n, hm.symm⟩

/-- A word turned to the right by n bits, as the model reckons. -/
def rotr (n : Nat) (x : Int) : Int := Go.bits BinOp.or IntKind.u32 (x / 2 ^ n) (x * 2 ^ (32 - n) % 4294967296)

theorem or_comm (k : IntKind) (a b : Int) : Go.bits BinOp.or k a b = Go.bits BinOp.or k b a := by
  unfold Go.bits
  simp [Nat.or_comm]

theorem and31 : ∀ n : Fin 32, n.val ≠ 0 → Go.bits BinOp.and IntKind.u64 (IntKind.u64.wrap (-(n.val : Int))) 31 = 32 - (n.val : Int) := by decide +kernel

set_option maxRecDepth 100000 in
theorem rotl_calls (x : Int) (n : Nat) (w : World) (h0 : 0 < n) (h1 : n < 32) :
    Calls Tryz.prog 144 #[.int .u32 x, .int .i64 (-(n : Int))] w fun e w' => e = .returned (.int .u32 (rotr n x)) ∧ w = w' := by
  have ha : Go.bits BinOp.and IntKind.u64 (IntKind.u64.wrap (-(n : Int))) 31 = 32 - (n : Int) := and31 ⟨n, h1⟩ (by simpa using Nat.pos_iff_ne_zero.1 h0)
  go_enter Tryz.func144, Tryz.ntmps144
  go_wp2
  go_ret
  exact ⟨ret_int (by unfold rotr; rw [or_comm, show 32 - (32 - n) = n from by omega]), rfl⟩

set_option maxRecDepth 100000 in
theorem refRotr_calls (x : Int) (n : Nat) (w : World) (h0 : 0 < n) (h1 : n < 32) :
    Calls Tryz.prog 108 #[.int .i64 n, .int .u32 x] w fun e w' => e = .returned (.int .u32 (rotr n x)) ∧ w = w' := by
  go_enter Tryz.func108, Tryz.ntmps108
  go_wp2
  go_ret
  exact ⟨ret_int rfl, rfl⟩

/-- turn -/
def turn (x : Int) (a b c : Nat) : Int := Go.bits BinOp.xor IntKind.u32 (Go.bits BinOp.xor IntKind.u32 (rotr a x) (rotr b x)) (rotr c x)

set_option maxRecDepth 100000 in
theorem turn_calls (x : Int) (a b c : Nat) (w : World) (ha : 0 < a ∧ a < 32) (hb : 0 < b ∧ b < 32) (hc : 0 < c ∧ c < 32) :
    Calls Tryz.prog 139 #[.int .u32 x, .int .i64 a, .int .i64 b, .int .i64 c] w fun e w' => e = .returned (.int .u32 (turn x a b c)) ∧ w = w' := by
  go_enter Tryz.func139, Tryz.ntmps139
  go_wp2_with fail
  refine (rotl_calls x a _ ha.1 ha.2).mono ?_; rintro e w1 ⟨rfl, rfl⟩
  go_wp2_with fail
  refine (rotl_calls x b _ hb.1 hb.2).mono ?_; rintro e w1 ⟨rfl, rfl⟩
  go_wp2_with fail
  refine (rotl_calls x c _ hc.1 hc.2).mono ?_; rintro e w1 ⟨rfl, rfl⟩
  go_wp2_with fail
  go_ret
  exact ⟨rfl, rfl⟩

/-- The start. -/
def start : List Int := [1779033703, 3144134277, 1013904242, 2773480762, 1359893119, 2600822924, 528734635, 1541459225]
def wordV (x : Int) : Value := .int .u32 x
theorem Start_calls (w : World) : Calls Tryz.prog 120 #[] w fun e w' => e = .returned (.agg (start.map wordV).toArray) ∧ Ext w w' := by
  go_enter Tryz.func120, Tryz.ntmps120
  go_wp2
  (try simp only [Exit.inBlock, Exit.then]); refine bodyPost_ret (results_cell_row rfl _ _ w.heap.size 125 _ (0, 0) _ rfl (heap_alloc_new w _) Tryz.underlying125 rfl (by kernel_rfl)) rfl ?_
  exact ⟨rfl, (Ext.refl w).alloc _⟩

theorem info_u32 : (Tryz.prog.info? 124).map (fun i => (i.zero, i.size, i.bytes)) = some (some (.int .u32 0), 1, 4) := by kernel_rfl
theorem size64 : (Tryz.prog.info? 146).map (·.size) = some 64 := by kernel_rfl
theorem size16 : (Tryz.prog.info? 127).map (·.size) = some 16 := by kernel_rfl
theorem size8 : (Tryz.prog.info? 125).map (·.size) = some 8 := by kernel_rfl
def zeros (n : Nat) : List Int := List.replicate n 0
theorem alloc_size (w : World) (o : Obj) : (w.alloc o).heap.size = w.heap.size + 1 := by simp
/-- An array of words at block g. -/
def Arr (w : World) (g : Nat) (t : TypeId) (l : List Int) : Prop := Blk w g t (l.map wordV).toArray

/-- mix -/
def mixW (x : Int) (a b c : Nat) : Int := Go.bits BinOp.xor IntKind.u32 (Go.bits BinOp.xor IntKind.u32 (rotr a x) (rotr b x)) (x / 2 ^ c)
/-- the i-th word -/
def wat (l : List Int) (i : Nat) : Int := l.getD i 0
def addW (x y : Int) : Int := (x + y) % 4294967296
def nextW (l : List Int) (t : Nat) : Int := (mixW (wat l (t - 2)) 17 19 10 + wat l (t - 7) + mixW (wat l (t - 15)) 7 18 3 + wat l (t - 16)) % 4294967296
theorem Arr.set {w : World} {g : Nat} {t : TypeId} {l : List Int} (h : Arr w g t l) (i : Nat) (v : Int) : Arr (w.setCell ⟨g, i, none⟩ (.int .u32 v)) g t (l.set i v) := by
  have := Blk.set_ h i (.int .u32 v)
  simpa [Arr, wordV, List.map_set] using this
theorem Arr.cell {w : World} {g : Nat} {t : TypeId} {l : List Int} (h : Arr w g t l) (i : Nat) (hi : i < l.length) : w.cell? ⟨g, i, none⟩ = some (.int .u32 (wat l i)) := by
  rw [Blk.cell h i]
  simp [wordV, wat, hi]
def schedK (b : List Int) : Nat → List Int
  | 0 => b ++ zeros 48
  | k + 1 => (schedK b k).set (16 + k) (nextW (schedK b k) (16 + k))
theorem schedK_length (b : List Int) (hb : b.length = 16) (k : Nat) : (schedK b k).length = 64 := by
  induction k with
  | zero => simp [schedK, hb, zeros]
  | succ k ih => simp [schedK, ih]

set_option maxRecDepth 100000 in
set_option maxHeartbeats 1000000 in
theorem mix_calls (x : Int) (a b c : Nat) (w : World) (ha : 0 < a ∧ a < 32) (hb : 0 < b ∧ b < 32) (hc : c < 32) :
    Calls Tryz.prog 143 #[.int .u32 x, .int .i64 a, .int .i64 b, .int .i64 c] w fun e w' => e = .returned (.int .u32 (mixW x a b c)) ∧ ∃ z, w' = w.drewN z := by
  go_enter Tryz.func143, Tryz.ntmps143
  have hc0 : (0 : Int) ≤ (c : Int) := by omega
  have hcm : min (c : Int).toNat 32 = c := by omega
  go_wp2_with fail
  go_quiet (first
    | (with_reducible exact quiet_eq (rotl_calls x a _ ha.1 ha.2))
    | (with_reducible exact quiet_eq (rotl_calls x b _ hb.1 hb.2)))
  go_wp2
  go_ret
  exact ⟨ret_int rfl, _, rfl⟩

theorem mix1_calls (x : Int) (w : World) : Calls Tryz.prog 143 #[.int .u32 x, .int .i64 17, .int .i64 19, .int .i64 10] w fun e w' => e = .returned (.int .u32 (mixW x 17 19 10)) ∧ ∃ z, w' = w.drewN z := mix_calls x 17 19 10 w (by omega) (by omega) (by omega)
theorem mix0_calls (x : Int) (w : World) : Calls Tryz.prog 143 #[.int .u32 x, .int .i64 7, .int .i64 18, .int .i64 3] w fun e w' => e = .returned (.int .u32 (mixW x 7 18 3)) ∧ ∃ z, w' = w.drewN z := mix_calls x 7 18 3 w (by omega) (by omega) (by omega)

set_option maxRecDepth 100000 in
set_option maxHeartbeats 1000000 in
theorem schedule_calls (b : List Int) (hb : b.length = 16) (w : World) : Calls Tryz.prog 138 #[.agg (b.map wordV).toArray] w fun e w' => e = .returned (.agg ((schedK b 48).map wordV).toArray) ∧ Ext w w' := by
  go_enter Tryz.func138, Tryz.ntmps138
  go_wp2_with fail
  change Code.wp _ _ _ _ (((w.alloc (.cells (b.map wordV).toArray 127)).alloc (.cells ((zeros 64).map wordV).toArray 146)).alloc (.cells ((zeros 64).map wordV).toArray 146))
  have hB : Arr (((w.alloc (.cells (b.map wordV).toArray 127)).alloc (.cells ((zeros 64).map wordV).toArray 146)).alloc (.cells ((zeros 64).map wordV).toArray 146)) w.heap.size 127 b := Blk.alloc (Blk.alloc (Blk.new w _ _) _) _
  have hW : Arr (((w.alloc (.cells (b.map wordV).toArray 127)).alloc (.cells ((zeros 64).map wordV).toArray 146)).alloc (.cells ((zeros 64).map wordV).toArray 146)) (w.heap.size + 1 + 1) 146 (zeros 64) := by
    have := Blk.new ((w.alloc (.cells (b.map wordV).toArray 127)).alloc (.cells ((zeros 64).map wordV).toArray 146)) 146 ((zeros 64).map wordV).toArray
    rw [alloc_size, alloc_size] at this
    exact this
  have hR : Arr (((w.alloc (.cells (b.map wordV).toArray 127)).alloc (.cells ((zeros 64).map wordV).toArray 146)).alloc (.cells ((zeros 64).map wordV).toArray 146)) (w.heap.size + 1) 146 (zeros 64) := by
    have := Blk.new (w.alloc (.cells (b.map wordV).toArray 127)) 146 ((zeros 64).map wordV).toArray
    rw [alloc_size] at this
    exact Blk.alloc this _
  have hE := (((Ext.refl w).alloc (.cells (b.map wordV).toArray 127)).alloc (.cells ((zeros 64).map wordV).toArray 146)).alloc (.cells ((zeros 64).map wordV).toArray 146)
  generalize (((w.alloc (.cells (b.map wordV).toArray 127)).alloc (.cells ((zeros 64).map wordV).toArray 146)).alloc (.cells ((zeros 64).map wordV).toArray 146)) = w1 at *
  have hbw : w.heap.size < w1.heap.size := hB.lt
  have hww : w.heap.size + 1 + 1 < w1.heap.size := hW.lt
  go_region_law (first
    | (refine step_copy_splice rfl (.tmp 6) (.tmp 7) 189 189 rfl 124 Tryz.underlying189 (by kernel_rfl) (some ⟨w.heap.size + 1 + 1, 0, none⟩) (some ⟨w.heap.size, 0, none⟩) 64 64 16 16 (by rfl) (by rfl) (w.heap.size + 1 + 1) 0 ((zeros 64).map wordV) 146 (by first | exact hW | exact Blk.drew hW) (b.map wordV) (by simp [hb]) (fun _ => ⟨rfl, _, rfl, fun j v hj => by rw [Go.WideShapes.add_plain]; first | (rw [Nat.zero_add]; exact (Blk.cell hB j).trans (by simpa using hj))⟩) (by simp [hb, zeros]) (by intro v hv; simp at hv; obtain ⟨x, _, rfl⟩ := hv; rfl) (w.heap.size + 1 + 1) w1 (by exact Below.drew (Below.refl _ _)) (by omega) ?_; intro w2 hg2 hb2))
  all_goals
    have hW2 : Arr w2 (w.heap.size + 1 + 1) 146 (schedK b 0) := by
      have := hg2.out
      rw [show splice ((zeros 64).map wordV) 0 (b.map wordV) = (schedK b 0).map wordV from by simp [splice, schedK, hb, zeros]] at this
      exact this
    have E2 : Ext w w2 := hE.below hb2 (by omega)
    have hR2 : Arr w2 (w.heap.size + 1) 146 (zeros 64) := Blk.below hR hb2 (by omega)
    clear hg2 hW hB hE hb2 hR
    go_wp2_with fail
    go_loopw [5] (fun v wr => ∃ k : Nat, k ≤ 48 ∧ v = .int .i64 ((16 + k : Nat) : Int) ∧ Arr wr (w.heap.size + 1 + 1) 146 (schedK b k) ∧ Arr wr (w.heap.size + 1) 146 (zeros 64) ∧ Ext w wr) (fun v _ => 64 - (intOf v).toNat)
    case atStart => exact ⟨0, Nat.zero_le _, rfl, hW2, hR2, E2⟩
    case round =>
      obtain ⟨k, hk, rfl, hA, hR, hE⟩ := hrel
      by_cases hlt : k < 48
      · have hl := schedK_length b hb k
        have hcell : ∀ i, i < 64 → wr.cell? ⟨w.heap.size + 1 + 1, i, none⟩ = some (.int .u32 (wat (schedK b k) i)) := fun i hi => hA.cell i (by omega)
        have c2 := hcell (16 + k - 2) (by omega)
        have c7 := hcell (16 + k - 7) (by omega)
        have c15 := hcell (16 + k - 15) (by omega)
        have c16 := hcell k (by omega)
        have f0 := Blk.frozen hA (16 + k)
        have s0 := hcell (16 + k) (by omega)
        clear hcell
        go_wp2_with fail
        have hgl : w.heap.size + 1 + 1 < wr.heap.size := hA.lt
        refine region_mix 25 (by kernel_rfl) (by kernel_rfl) (fun x => ?_); simp only [List.take_succ_cons, List.take_zero, List.drop_succ_cons, List.drop_zero]
        repeat (first | (refine mix_quiet (by rfl) (by rfl) (fun K hK => ?_); go_big_quiet_op; refine hK _ ?_; clear hK K) | (refine mix_skip (by rfl) ?_; simp only [Act.put, List.setIfInBounds_toArray, List.set_cons_zero, List.set_cons_succ]))
        (refine mix_loud (by rfl) (by rfl) (fun K E hK => ?_); go_big_op)
        (with_reducible refine (mix1_calls _ _).mono ?_); rintro e w3 ⟨rfl, hd⟩
        obtain ⟨x3, rfl⟩ := more_drawn x hd; clear hd
        refine hK _ _ ⟨_, rfl⟩ ?_; clear hK K E
        repeat (first | (refine mix_quiet (by rfl) (by rfl) (fun K hK => ?_); go_big_quiet_op; refine hK _ ?_; clear hK K) | (refine mix_skip (by rfl) ?_; simp only [Act.put, List.setIfInBounds_toArray, List.set_cons_zero, List.set_cons_succ]))
        (refine mix_loud (by rfl) (by rfl) (fun K E hK => ?_); go_big_op)
        (with_reducible refine (mix0_calls _ _).mono ?_); rintro e w3 ⟨rfl, hd⟩
        obtain ⟨x4, rfl⟩ := more_drawn x3 hd; clear hd
        refine hK _ _ ⟨_, rfl⟩ ?_; clear hK K E
        repeat (first | (refine mix_quiet (by rfl) (by rfl) (fun K hK => ?_); go_big_quiet_op; refine hK _ ?_; clear hK K) | (refine mix_skip (by rfl) ?_; simp only [Act.put, List.setIfInBounds_toArray, List.set_cons_zero, List.set_cons_succ]))
        refine mix_nil ?_
        go_wp2
        go_roundw
        case rel =>
          refine ⟨k + 1, by omega, by go_num, ?_, Blk.far (Blk.grow x4 hR) (by simp) _, (hE.trans (grow_ext x4)).setCell (by simp; omega) _⟩
          have hn : (mixW (wat (schedK b k) (16 + k - 2)) 17 19 10 + wat (schedK b k) (16 + k - 7) + mixW (wat (schedK b k) (16 + k - 15)) 7 18 3 + wat (schedK b k) k) % 4294967296 = nextW (schedK b k) (16 + k) := by
            unfold nextW
            rw [show 16 + k - 16 = k from by omega]
          rw [hn]
          exact Arr.set (Blk.grow x4 hA) (16 + k) _
        case measure => simp [intOf]; omega
      · obtain rfl : k = 48 := by omega
        go_wp2_with (first
          | (refine wpList_load_row rfl 146 (.tmp 3) rfl (w.heap.size + 1 + 1) (by rfl) 146 _ (0, 0) _ hA Tryz.underlying146 rfl (size64.trans (by simp [schedK_length b hb])) ?_)
          | (refine wpList_store_row rfl 146 (.tmp 2) (.tmp 38) rfl (w.heap.size + 1) _ (by rfl) (by rfl) 146 _ hR (size64.trans (by simp [schedK_length b hb])) (by simp [schedK_length b hb, zeros]) (by simp [wordV, Value.oneCell']) ?_))
        (try simp only [Exit.inBlock, Exit.then]); refine bodyPost_ret (results_cell_row rfl _ _ (w.heap.size + 1) 146 _ (0, 0) _ rfl (Blk.row hR _) Tryz.underlying146 rfl (size64.trans (by simp [schedK_length b hb]))) rfl ⟨rfl, hE.row (by omega) _⟩

end Go.Proofs.YtcgnjdkennkheaaGreatDoor
