/-
  The walk of sha.blocks.
-/
import Derived.Test.YtcgnjdkennkheaaGreatDoorShaP
set_option linter.unusedVariables false
set_option maxRecDepth 100000
set_option linter.unusedSimpArgs false
namespace Go.Proofs.YtcgnjdkennkheaaGreatDoor
open Go.RowKit
attribute [local go_sem] bs_size bs_toList2 bs_append bs_extract_end bs_extract_begin bs_get wrap64_b grow_cell grow_frozen

theorem res_ct {P : Program} {fn : Func} {p u : Tmp} {ty : TypeId} (h : fn.results = #[.cell p ty, .tmp u]) (tmps : Array Value) (w : World) (g : Nat) (t : TypeId) (cs : Array Value) (d : TypeDesc)
    (hp : tmps.getD p undef = .pointer (some ⟨g, 0, none⟩)) (hg : Blk w g t cs)
    (hu : P.underlying ty = some d) (hd : (match d with | .struct _ | .array _ _ => true | _ => false) = true) (hi : (P.info? ty).map (·.size) = some cs.size) :
    (results fn tmps).run P w = .ok (.tuple #[.agg cs, tmps.getD u undef]) w := by
  have hp' : tmps[p]?.getD undef = .pointer (some ⟨g, 0, none⟩) := by simpa using hp
  simp [results, h, hp', asAddr, run_loadVar_row w g t ty cs (0, 0) d hg hu hd hi]
theorem word_or (x : Int) (c : UInt8) (h0 : 0 ≤ x) (h1 : x < 16777216) : bits BinOp.or IntKind.u32 (x * 256 % 4294967296) ((c.toNat : Int) % 4294967296) = x * 256 + (c.toNat : Int) := by
  obtain ⟨n, rfl⟩ := Int.eq_ofNat_of_zero_le h0
  have hc : c.toNat < 2 ^ 8 := c.toNat_lt
  have e1 : ((n : Int) * 256 % 4294967296) = ((n * 256 : Nat) : Int) := by omega
  have e2 : ((c.toNat : Int) % 4294967296) = ((c.toNat : Nat) : Int) := by omega
  rw [e1, e2, u32_or_nat (n * 256) c.toNat (by omega) (by omega)]
  have := Nat.two_pow_add_eq_or_of_lt hc n
  rw [Nat.mul_comm (2 ^ 8) n] at this
  rw [← this]
  omega
def strN : Value → Nat
  | .string b => b.size
  | _ => 0

set_option maxRecDepth 100000 in
set_option maxHeartbeats 1000000 in
theorem blocks_calls (st : List Int) (s : List UInt8) (hst : st.length = 8) (hs : s.length ≤ 9223372036854775807) (w : World) (K : Keys w) :
    Calls Tryz.prog 121 #[.agg (st.map wordV).toArray, .string (bs s)] w fun e w' => e = .returned (.tuple #[.agg ((whole st s).map wordV).toArray, .string (bs (left s))]) ∧ Ext w w' := by
  go_enter Tryz.func121, Tryz.ntmps121
  go_wp2_with fail
  change Code.wp _ _ _ _ ((w.alloc (.cells (st.map wordV).toArray 125)).alloc (.cells ((zeros 8).map wordV).toArray 125))
  have hS : Arr ((w.alloc (.cells (st.map wordV).toArray 125)).alloc (.cells ((zeros 8).map wordV).toArray 125)) w.heap.size 125 (absorb st s 0) := Blk.alloc (Blk.new w _ _) _
  have hR : Arr ((w.alloc (.cells (st.map wordV).toArray 125)).alloc (.cells ((zeros 8).map wordV).toArray 125)) (w.heap.size + 1) 125 (zeros 8) := by
    have := Blk.new (w.alloc (.cells (st.map wordV).toArray 125)) 125 ((zeros 8).map wordV).toArray
    rw [alloc_size] at this
    exact this
  have hE0 := ((Ext.refl w).alloc (.cells (st.map wordV).toArray 125)).alloc (.cells ((zeros 8).map wordV).toArray 125)
  generalize (w.alloc (.cells (st.map wordV).toArray 125)).alloc (.cells ((zeros 8).map wordV).toArray 125) = w0 at *
  go_loopw [1] (fun v wr => ∃ k : Nat, 64 * k ≤ s.length ∧ v = .string (bs (s.drop (64 * k))) ∧ Arr wr w.heap.size 125 (absorb st s k) ∧ Arr wr (w.heap.size + 1) 125 (zeros 8) ∧ Ext w wr) (fun v _ => strN v)
  case atStart => exact ⟨0, by omega, by simp, hS, hR, hE0⟩
  case round =>
    clear hS hR hE0
    obtain ⟨wo, rfl⟩ : ∃ wo : World, wo = wr := ⟨_, rfl⟩
    obtain ⟨k, hk, rfl, hS, hR, hE⟩ := hrel
    have hdl : (s.drop (64 * k)).length = s.length - 64 * k := by simp
    have Hdl := Lib.hid hdl
    have hsum : absorb st s (k + 1) = step (absorb st s k) (blockOf (s.drop (64 * k))) := rfl
    have Hsum := Lib.hid hsum; clear hsum
    have hnext : s.drop (64 * (k + 1)) = (s.drop (64 * k)).drop 64 := by rw [List.drop_drop, Nat.mul_add]
    have Hnext := Lib.hid hnext; clear hnext
    have hend : s.length - 64 * k < 64 → left s = s.drop (64 * k) ∧ whole st s = absorb st s k := by
      intro h
      have : s.length / 64 = k := by omega
      unfold left whole
      rw [this]
      exact ⟨rfl, rfl⟩
    have Hend := Lib.hid hend; clear hend
    have hal := absorb_length st s hst k
    have hsl : (s.drop (64 * k)).length ≤ 9223372036854775807 := by omega
    clear hdl
    generalize absorb st s k = sk at *
    generalize s.drop (64 * k) = d at *
    by_cases h64 : 64 ≤ d.length
    · have hI : (64 : Int) ≤ (d.length : Int) := by omega
      go_wp2_with fail
      have hB0 : Arr (wo.alloc (.cells ((zeros 16).map wordV).toArray 127)) wo.heap.size 127 (packs d 0) := by
        rw [packs_zero]
        exact Blk.new _ _ _
      have hS0 : Arr (wo.alloc (.cells ((zeros 16).map wordV).toArray 127)) w.heap.size 125 sk := Blk.alloc hS _
      have hR0 : Arr (wo.alloc (.cells ((zeros 16).map wordV).toArray 127)) (w.heap.size + 1) 125 (zeros 8) := Blk.alloc hR _
      have hE0 : Ext w (wo.alloc (.cells ((zeros 16).map wordV).toArray 127)) := hE.alloc _
      have hlo : w.heap.size + 1 < wo.heap.size := hR.lt
      change Code.wp _ _ _ _ (wo.alloc (.cells ((zeros 16).map wordV).toArray 127))
      generalize wo.alloc (.cells ((zeros 16).map wordV).toArray 127) = w1 at *
      generalize hgb : wo.heap.size = gb at *
      clear hS hR hE hgb
      go_loopw [11] (fun v wr => ∃ i : Nat, i ≤ 64 ∧ v = .int .i64 (i : Int) ∧ Arr wr gb 127 (packs d i) ∧ Arr wr w.heap.size 125 sk ∧ Arr wr (w.heap.size + 1) 125 (zeros 8) ∧ Ext w wr) (fun v _ => 64 - (intOf v).toNat)
      case atStart => exact ⟨0, by omega, rfl, hB0, hS0, hR0, hE0⟩
      case round =>
        clear hB0 hS0 hR0 hE0
        obtain ⟨i, hi, rfl, hB, hS, hR, hE⟩ := hrel
        have hpl := packs_length d i
        by_cases hlt : i < 64
        · have hit : (i : Int) < 64 := by omega
          have hid' : (i : Int) < (d.length : Int) := by omega
          have hdn : i < d.length := by omega
          have hcell := hB.cell (i / 4) (by omega)
          have hfr := Blk.frozen hB (i / 4)
          have hgl : gb < wr.heap.size := hB.lt
          have h16 : (i : Int) / 4 < 16 := by omega
          have h16n : i / 4 < 16 := by omega
          go_wp2_with fail
          refine region_mix 13 (by kernel_rfl) (by kernel_rfl) (fun x => ?_); simp only [List.take_succ_cons, List.take_zero, List.drop_succ_cons, List.drop_zero]
          repeat (first | (refine mix_quiet (by rfl) (by rfl) (fun K hK => ?_); go_big_quiet_op; refine hK _ ?_; clear hK K) | (refine mix_skip (by rfl) ?_; simp only [Act.put, List.setIfInBounds_toArray, List.set_cons_zero, List.set_cons_succ]))
          refine mix_nil ?_
          go_wp2_with fail
          have hpb := packs_bound d i hlt
          go_roundw
          case rel =>
            rw [word_or _ _ hpb.1 hpb.2]
            exact ⟨i + 1, by omega, by go_num, by rw [packs_succ d i hlt hdn]; exact Arr.set (Blk.grow x hB) (i / 4) _, Blk.far (Blk.grow x hS) (by simp; omega) _, Blk.far (Blk.grow x hR) (by simp; omega) _, (hE.trans (grow_ext x)).setCell (by simp; omega) _⟩
          case measure => simp [intOf]; omega
        · obtain rfl : i = 64 := by omega
          have hBl := hB.lt
          change Arr wr gb 127 (blockOf d) at hB
          have hbl := blockOf_length d
          generalize hbd : blockOf d = bd at *
          have Hbd := Lib.hid hbd; clear hbd
          clear hpl
          go_wp2_with (refine stop_load 125 (.tmp 2) rfl ?_)
          refine ⟨?_⟩
          refine wpList_load_row rfl 125 (.tmp 2) rfl w.heap.size (by rfl) 125 _ (0, 0) _ hS Tryz.underlying125 rfl (size8.trans (by simp [hal])) ?_
          refine wpList_load_row rfl 127 (.tmp 6) rfl gb (by rfl) 127 _ (0, 0) _ hB Tryz.underlying127 rfl (size16.trans (by simp [hbl])) ?_
          simp only [Act.put, List.setIfInBounds_toArray, List.set_cons_zero, List.set_cons_succ]
          go_wp2_with fail
          go_at_call 132
          (with_reducible refine (Step_calls sk bd hal hbl _ (K.ext hE)).mono ?_); rintro e w3 ⟨rfl, hE3⟩
          have hS3 : Arr w3 w.heap.size 125 sk := Blk.below hS hE3 hS.lt
          have hR3 : Arr w3 (w.heap.size + 1) 125 (zeros 8) := Blk.below hR hE3 hR.lt
          have hE4 : Ext w w3 := hE.trans hE3
          clear hS hR hE hE3 hB hBl
          have hsl2 : (step sk bd).length = 8 := by rw [step_length]; exact hal
          go_wp2_with (refine stop_store 125 (.tmp 2) (.tmp 30) rfl ?_)
          refine ⟨?_⟩
          refine wpList_store_row rfl 125 (.tmp 2) (.tmp 30) rfl w.heap.size _ (by rfl) (by rfl) 125 _ hS3 (size8.trans (by simp [hsl2])) (by simp [hal, hsl2]) (by simp [wordV, Value.oneCell']) ?_
          simp only [Act.put, List.setIfInBounds_toArray, List.set_cons_zero, List.set_cons_succ]
          have hS5 : Arr (w3.setRow w.heap.size ((step sk bd).map wordV).toArray) w.heap.size 125 (step sk bd) := Blk.row hS3 _
          have hR5 : Arr (w3.setRow w.heap.size ((step sk bd).map wordV).toArray) (w.heap.size + 1) 125 (zeros 8) := Blk.rowFar hR3 (by omega) _
          have hE5 : Ext w (w3.setRow w.heap.size ((step sk bd).map wordV).toArray) := hE4.row (Nat.le_refl _) _
          generalize w3.setRow w.heap.size ((step sk bd).map wordV).toArray = w5 at *
          clear hS3 hR3 hE4
          go_wp2_with fail
          go_roundw
          case rel =>
            have hdl := Hdl.out
            exact ⟨k + 1, by omega, by rw [Hnext.out], by rw [Hsum.out]; exact hS5, hR5, hE5⟩
          case measure => simp only [strN, bs_size, List.length_drop]; omega
    · have hI : ¬ (64 : Int) ≤ (d.length : Int) := by omega
      obtain ⟨e1, e2⟩ := Hend.out (by have := Hdl.out; omega)
      clear Hend
      go_wp2_with (refine stop_load 125 (.tmp 2) rfl ?_)
      refine ⟨?_⟩
      refine wpList_load_row rfl 125 (.tmp 2) rfl w.heap.size (by rfl) 125 _ (0, 0) _ hS Tryz.underlying125 rfl (size8.trans (by simp [hal])) ?_
      simp only [Act.put, List.setIfInBounds_toArray, List.set_cons_zero, List.set_cons_succ]
      go_wp2_with (refine stop_store 125 (.tmp 4) (.tmp 33) rfl ?_)
      refine ⟨?_⟩
      refine wpList_store_row rfl 125 (.tmp 4) (.tmp 33) rfl (w.heap.size + 1) _ (by rfl) (by rfl) 125 _ hR (size8.trans (by simp [hal])) (by simp [hal, zeros]) (by simp [wordV, Value.oneCell']) ?_
      simp only [Act.put, List.setIfInBounds_toArray, List.set_cons_zero, List.set_cons_succ]
      go_wp2_with fail
      (try simp only [Exit.inBlock, Exit.then]); refine bodyPost_ret (res_ct rfl _ _ (w.heap.size + 1) 125 _ _ rfl (Blk.row hR _) Tryz.underlying125 rfl (size8.trans (by simp [hal]))) rfl ⟨?_, hE.row (by omega) _⟩
      rw [e1, e2]
      rfl

end Go.Proofs.YtcgnjdkennkheaaGreatDoor
