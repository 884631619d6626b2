/-
  The walk of leaf.above.
-/
import Derived.Test.YtlcimlencoaiiaaDoorLeaf2
set_option linter.unusedVariables false
set_option maxRecDepth 100000
set_option linter.unusedSimpArgs false
namespace Go.Proofs.YtlcimlencoaiiaaDoor
open Go.RowKit
attribute [local go_sem] bs_size bs_toList2 bs_append bs_extract_end bs_extract_begin bs_get wrap64_b grow_cell grow_frozen

theorem above_take (l : List (List UInt8)) (i : Nat) (h : 2 * i + 1 < l.length) : Tree.above nodeB (l.take (2 * (i + 1))) = Tree.above nodeB (l.take (2 * i)) ++ [nodeB l[2 * i] l[2 * i + 1]] := by
  rw [Tree.above_pairs nodeB [] l i h, List.getElem?_eq_getElem (show 2 * i < l.length by omega), List.getElem?_eq_getElem h]
  rfl
theorem above_take_length (l : List (List UInt8)) (i : Nat) (h : 2 * i ≤ l.length) : (Tree.above nodeB (l.take (2 * i))).length = i := by
  rw [Tree.above_length]
  simp
  omega

set_option maxHeartbeats 1000000 in
theorem above_calls (v : Value) (l : List (List UInt8)) (hl : AllH l) (hn : l.length ≤ 1000000) (w : World) (KW : Keys w) (h : SlS w w.heap.size v l) :
    Calls Tryd.prog 62 #[v] w fun e w' => ∃ v', e = .returned v' ∧ w'.ownsRow w.heap.size 23 32 v' (Tree.above nodeB l).length (flatS (Tree.above nodeB l)) ∧ Ext w w' := by
  obtain ⟨A, cap, rfl, hA, hc, hc63, hr⟩ := h
  obtain ⟨ab, hab⟩ : ∃ ab, ab = Tree.above nodeB l := ⟨_, rfl⟩
  rw [← hab]
  have Hab := Lib.hid hab; clear hab
  go_enter Tryd.func62, Tryd.ntmps62
  go_wp2_with fail
  change Code.wp _ _ _ _ (w.alloc (.cells #[.slice none 0 0] 29))
  have hU : Blk (w.alloc (.cells #[.slice none 0 0] 29)) w.heap.size 29 #[.slice none 0 0] := Blk.new _ _ _
  have hE := (Ext.refl w).alloc (.cells #[.slice none 0 0] 29)
  generalize w.alloc (.cells #[.slice none 0 0] 29) = w0 at *
  have hO : w0.ownsRow w.heap.size 23 32 (.slice none 0 0) 0 (flatS (Tree.above nodeB (l.take (2 * 0)))) := by
    rw [Nat.mul_zero, List.take_zero]
    exact World.ownsRow_nil _ _ _ _
  go_loopw [10] (fun c wr => ∃ (i : Nat) (vu : Value), i ≤ l.length / 2 ∧ c = .int .i64 (i : Int) ∧ Blk wr w.heap.size 29 #[vu] ∧ wr.ownsRow w.heap.size 23 32 vu i (flatS (Tree.above nodeB (l.take (2 * i)))) ∧ Ext w wr) (fun c _ => l.length / 2 - (intOf c).toNat)
  case atStart => exact ⟨0, _, by omega, rfl, hU, hO, hE⟩
  case round =>
    clear hU hO hE
    obtain ⟨i, vu, hi, rfl, hU, hO, hE⟩ := hrel
    have hal := above_take_length l i (by omega)
    have Hal := Lib.hid hal; clear hal
    have hgl := hU.lt
    by_cases hlt : i < l.length / 2
    · have hit : (i : Int) < (l.length : Int) / 2 := by omega
      rcases hA with ⟨_, hl0, _⟩ | ⟨b, off, rfl⟩
      · rw [hl0] at hlt; simp at hlt
      have hr1 := hr.below hE (Nat.le_refl _)
      obtain ⟨hb, hm0⟩ := rds_at hr1 hl (show 2 * i < l.length by omega)
      obtain ⟨_, hm1⟩ := rds_at hr1 hl (show 2 * i + 1 < l.length by omega)
      have hbl : b < wr.heap.size := Nat.lt_of_lt_of_le hb hE.size
      have hx := hl.get (2 * i) (by omega)
      have hy := hl.get (2 * i + 1) (by omega)
      have hat := above_take l i (by omega)
      have h2i : (2 : Int) * (i : Int) + 1 < (l.length : Int) := by omega
      have h2n : 2 * i + 1 < l.length := by omega
      have h2j : (2 : Int) * (i : Int) < (l.length : Int) := by omega
      have h2m : 2 * i < l.length := by omega
      have Hat := Lib.hid hat
      clear hat
      have hap := above_all _ (hl.take (2 * i))
      generalize Tree.above nodeB (l.take (2 * i)) = ap at *
      generalize l[2 * i] = p at *
      generalize l[2 * i + 1] = q at *
      have Hap := Lib.hid hap
      clear hap
      go_wp2_with fail
      refine region_mix 13 (by kernel_rfl) (by kernel_rfl) (fun x => ?_); simp only [List.take_succ_cons, List.take_zero, List.drop_succ_cons, List.drop_zero]
      iterate 5 (first | (refine mix_quiet (by rfl) (by rfl) (fun K hK => ?_); go_big_quiet_op; refine hK _ ?_; clear hK K) | (refine mix_skip (by rfl) ?_; simp only [Act.put, List.setIfInBounds_toArray, List.set_cons_zero, List.set_cons_succ]))
      refine mix_mid (by rfl) (by rfl) 23 (.tmp 17) rfl b (off + 2 * i * 32) (by rfl) _ _ hm0 hbl Tryd.underlying23 rfl (size32l _ hx) ?_
      simp only [Act.put, List.setIfInBounds_toArray, List.set_cons_zero, List.set_cons_succ]
      iterate 5 (first | (refine mix_quiet (by rfl) (by rfl) (fun K hK => ?_); go_big_quiet_op; refine hK _ ?_; clear hK K) | (refine mix_skip (by rfl) ?_; simp only [Act.put, List.setIfInBounds_toArray, List.set_cons_zero, List.set_cons_succ]))
      refine mix_mid (by rfl) (by rfl) 23 (.tmp 23) rfl b (off + (2 * i + 1) * 32) (by rfl) _ _ hm1 hbl Tryd.underlying23 rfl (size32l _ hy) ?_
      simp only [Act.put, List.setIfInBounds_toArray, List.set_cons_zero, List.set_cons_succ]
      (refine mix_loud (by rfl) (by rfl) (fun K E hK => ?_); go_big_op)
      change Calls _ _ #[sumV p, sumV q] _ _
      refine (Node_calls p q hx hy _ (KW.ext (hE.trans (grow_ext _)))).mono ?_; rintro e w3 ⟨rfl, hd'⟩
      obtain ⟨x', rfl⟩ := more_ext _ hd'
      refine hK _ _ ⟨_, rfl⟩ ?_; clear hK K E
      refine mix_nil ?_
      have hE2 := hE.trans (grow_ext x')
      have hU2 := Blk.grow x' hU
      have hO2 := owns_ext hO (grow_ext x')
      go_wp2_with fail
      refine (put_calls (nodeB p q) (nodeB_length p q) w.heap.size w.heap.size vu ap Hap.out (by have := Hal.out; omega) _ hU2 (by rw [Hal.out]; exact hO2) (Nat.le_refl _)).mono ?_
      rintro e w4 ⟨rfl, ⟨v', hU4, hO4⟩, hB4⟩
      have hE4 : Ext w w4 := Ext.below hE2 hB4 (Nat.le_refl _)
      rw [Hal.out] at hO4
      clear hE2 hU2 hO2 hB4 hm0 hm1 hr1
      go_wp2_with fail
      go_roundw
      case rel => exact ⟨i + 1, v', by omega, by go_num, hU4, by rw [Hat.out]; exact hO4, hE4⟩
      case measure => simp [intOf]; omega
    · obtain rfl : i = l.length / 2 := by omega
      have hc0 : wr.cell? ⟨w.heap.size, 0, none⟩ = some vu := Blk.cell hU 0
      obtain ⟨Av, cv, rfl⟩ := own_slice hO
      by_cases hodd : l.length % 2 = 1
      · have hoI : ((l.length : Int) % 2 == 1) = true := by rw [beq_iff_eq]; omega
        have hpos : 0 < l.length := by omega
        have hix : l.length - 1 < l.length := by omega
        have hat := Tree.above_odd nodeB [] l hodd
        rw [List.getElem?_eq_getElem hix] at hat
        have hat2 : ab = Tree.above nodeB (l.take (2 * (l.length / 2))) ++ [l[l.length - 1]'hix] := Hab.out.trans hat
        have hlen1 : ab.length = l.length / 2 + 1 := by rw [hat2, List.length_append, Hal.out]; rfl
        have Hat := Lib.hid hat2; have Hlen := Lib.hid hlen1
        clear hat hat2 Hab hlen1 hodd
        rcases hA with ⟨_, hl0, _⟩ | ⟨b, off, rfl⟩
        · rw [hl0] at hpos; simp at hpos
        have hr1 := hr.below hE (Nat.le_refl _)
        obtain ⟨hb, hm0⟩ := rds_at hr1 hl hix
        have hx := hl.get (l.length - 1) hix
        have hl1 : ((l.length : Int) - 1).toNat = l.length - 1 := by omega
        have hap := above_all _ (hl.take (2 * (l.length / 2)))
        generalize Tree.above nodeB (l.take (2 * (l.length / 2))) = ap at *
        generalize l[l.length - 1]'hix = x at *
        have Hap := Lib.hid hap
        clear hap
        have hposI : (0 : Int) ≤ (l.length : Int) - 1 := by omega
        go_wp2_with (refine stop_load 23 (.tmp 37) rfl ?_)
        refine ⟨?_⟩
        refine wpList_load_mid rfl 23 (.tmp 37) rfl b (off + (l.length - 1) * 32) (by rfl) (hcells x) _ hm0 Tryd.underlying23 rfl (size32l _ hx) ?_
        simp only [Act.put, List.setIfInBounds_toArray, List.set_cons_zero, List.set_cons_succ]
        go_wp2_with fail
        change Calls _ _ #[sumV x, _] _ _
        refine (put_calls x hx w.heap.size w.heap.size _ ap Hap.out (by have := Hal.out; omega) _ hU (by rw [Hal.out]; exact hO) (Nat.le_refl _)).mono ?_
        rintro e w4 ⟨rfl, ⟨v', hU4, hO4⟩, hB4⟩
        have hE4 : Ext w w4 := Ext.below hE hB4 (Nat.le_refl _)
        rw [Hal.out, ← Hlen.out, ← Hat.out] at hO4
        have hc4 : w4.cell? ⟨w.heap.size, 0, none⟩ = some v' := Blk.cell hU4 0
        obtain ⟨Av', cv', rfl⟩ := own_slice hO4
        clear hm0 hU hO hE hB4 hc0 hr1
        go_wp2_with fail
        go_ret
        exact ⟨_, rfl, hO4, hE4⟩
      · have hoI : ((l.length : Int) % 2 == 1) = false := by rw [beq_eq_false_iff_ne]; omega
        have hat := Tree.above_even nodeB l (by omega)
        have hat2 : ab = Tree.above nodeB (l.take (2 * (l.length / 2))) := Hab.out.trans hat
        have hlen1 : ab.length = l.length / 2 := by rw [hat2]; exact Hal.out
        rw [← hat2] at hO
        have Hlen := Lib.hid hlen1
        clear hat hat2 hlen1 Hab Hal hodd
        go_wp2_with fail
        go_ret
        exact ⟨_, rfl, by rw [Hlen.out]; exact hO, hE⟩

end Go.Proofs.YtlcimlencoaiiaaDoor
