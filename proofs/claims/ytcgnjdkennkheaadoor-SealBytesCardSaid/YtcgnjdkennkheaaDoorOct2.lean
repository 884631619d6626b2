/-
  The walks of layer 1 (octet), the scanner's methods.
-/
import Derived.Test.YtcgnjdkennkheaaDoorOct
import Derived.Deep.RegionHeld3
import Derived.Deep.RegionLaw
import Derived.Deep.AppendLies
set_option linter.unusedVariables false
set_option maxRecDepth 100000
set_option linter.unusedSimpArgs false
namespace Go.Proofs.YtcgnjdkennkheaaDoor
open Go.RowKit
attribute [local go_sem] bs_size bs_toList2 bs_append bs_extract_end bs_extract_begin bs_get wrap64_b

set_option maxHeartbeats 400000 in
theorem Read_calls (s : List UInt8) (w : World) :
    Calls Tryd.prog 75 #[.string (bs s)] w fun e w' => e = .returned (.pointer (some ⟨w.heap.size, 0, none⟩)) ∧ w' = w.alloc (.cells #[.string (bs s), .bool false] 122) := by
  go_enter Tryd.func75, Tryd.ntmps75
  go_wp2
  go_ret
  exact ⟨rfl, rfl⟩

theorem Read_at (s : List UInt8) (w : World) : ScAt (w.alloc (.cells #[.string (bs s), .bool false] 122)) w.heap.size ⟨s, false⟩ := Blk.new _ _ _

set_option maxHeartbeats 400000 in
theorem Sound_calls (g : Nat) (x : Oct.Sc) (w : World) (h : ScAt w g x) :
    Calls Tryd.prog 79 #[.pointer (some ⟨g, 0, none⟩)] w fun e w' => e = .returned (.bool (!x.spoil)) ∧ w = w' := by
  have c1 : w.cell? ⟨g, 1, none⟩ = some (.bool x.spoil) := Blk.cell h 1
  go_enter Tryd.func79, Tryd.ntmps79
  go_wp2
  go_ret
  exact ⟨rfl, rfl⟩

set_option maxHeartbeats 400000 in
theorem Num_calls (g : Nat) (x : Oct.Sc) (most : Int) (w : World) (h : ScAt w g x) (hl : x.left.length ≤ 9223372036854775807) (hm0 : -9223372036854775808 ≤ most) (hm1 : most ≤ 9223372036854775807) :
    Calls Tryd.prog 46 #[.pointer (some ⟨g, 0, none⟩), .int .i64 most] w fun e w' => e = .returned (.int .i64 (x.num most).1) ∧ ScAt w' g (x.num most).2 ∧ Upd g w w' := by
  have hll := Oct.long_left_le x
  have hlt := Oct.long_lt x
  have HL := Long_calls g x w h hl
  replace HL := Lib.hid HL
  by_cases hneg : most < 0
  · have e1 : x.num most = (0, x.long.2.bad) := by simp [Oct.Sc.num, hneg]
    rw [e1]; clear e1
    go_enter Tryd.func46, Tryd.ntmps46
    go_wp2_with fail
    refine HL.out.mono ?_; rintro e w1 ⟨rfl, h1, hu1⟩
    go_wp2_with fail
    (with_reducible refine (take_to g _ (-1) _ _ _ _ (take_bad _) h1 (by omega) (by omega) (by omega)).mono ?_); rintro e w2 ⟨rfl, h2, hu2⟩
    go_wp2_with fail
    go_ret
    exact ⟨rfl, h2, hu1.trans hu2⟩
  · by_cases hbig : most < (x.long.1 : Int)
    · have e1 : x.num most = (0, x.long.2.bad) := by simp [Oct.Sc.num, hbig]
      rw [e1]; clear e1
      go_enter Tryd.func46, Tryd.ntmps46
      go_wp2_with fail
      refine HL.out.mono ?_; rintro e w1 ⟨rfl, h1, hu1⟩
      go_wp2_with fail
      (with_reducible refine (take_to g _ (-1) _ _ _ _ (take_bad _) h1 (by omega) (by omega) (by omega)).mono ?_); rintro e w2 ⟨rfl, h2, hu2⟩
      go_wp2_with fail
      go_ret
      exact ⟨rfl, h2, hu1.trans hu2⟩
    · have e1 : x.num most = ((x.long.1 : Int), x.long.2) := by simp [Oct.Sc.num, hneg, hbig]
      rw [e1]; clear e1
      go_enter Tryd.func46, Tryd.ntmps46
      go_wp2_with fail
      refine HL.out.mono ?_; rintro e w1 ⟨rfl, h1, hu1⟩
      go_wp2_with fail
      go_ret
      exact ⟨rfl, h1, hu1⟩

set_option maxHeartbeats 400000 in
theorem ScText_calls (g : Nat) (x : Oct.Sc) (most : Int) (w : World) (h : ScAt w g x) (hl : x.left.length ≤ 9223372036854775807) (hm0 : -9223372036854775808 ≤ most) (hm1 : most ≤ 9223372036854775807) :
    Calls Tryd.prog 56 #[.pointer (some ⟨g, 0, none⟩), .int .i64 most] w fun e w' => e = .returned (.string (bs (x.text most).1)) ∧ ScAt w' g (x.text most).2 ∧ Upd g w w' := by
  have hll := Oct.num_left_le x most
  have hnn := Oct.num_nonneg x most
  have hnl := Oct.num_lt x most hm1
  have HL := Num_calls g x most w h hl hm0 hm1
  replace HL := Lib.hid HL
  cases hsp : (x.num most).2.spoil
  · have e1 : x.text most = (((x.num most).2.take (x.num most).1).1, ((x.num most).2.take (x.num most).1).2.2) := by simp [Oct.Sc.text, hsp]
    rw [e1]; clear e1
    have HSP := Lib.hid hsp
    clear hsp
    go_enter Tryd.func56, Tryd.ntmps56
    go_wp2_with fail
    refine HL.out.mono ?_; rintro e w1 ⟨rfl, h1, hu1⟩
    go_wp2_with fail
    refine (Sound_calls g _ _ h1).mono ?_; rintro e w1 ⟨rfl, rfl⟩
    rw [HSP.out]
    go_wp2_with fail
    (with_reducible refine (take_calls g _ _ _ h1 (by omega) (by omega) (by omega)).mono ?_); rintro e w2 ⟨rfl, h2, hu2⟩
    go_wp2_with fail
    go_ret
    exact ⟨rfl, h2, hu1.trans hu2⟩
  · have e1 : x.text most = ([], (x.num most).2) := by simp [Oct.Sc.text, hsp]
    rw [e1]; clear e1
    have HSP := Lib.hid hsp
    clear hsp
    go_enter Tryd.func56, Tryd.ntmps56
    go_wp2_with fail
    refine HL.out.mono ?_; rintro e w1 ⟨rfl, h1, hu1⟩
    go_wp2_with fail
    refine (Sound_calls g _ _ h1).mono ?_; rintro e w1 ⟨rfl, rfl⟩
    rw [HSP.out]
    go_wp2_with fail
    go_ret
    exact ⟨rfl, h1, hu1⟩


/-! ### Writing texts and lists -/
set_option maxHeartbeats 400000 in
theorem Text_calls (s : List UInt8) (w : World) (hs : s.length ≤ 140737488355328) :
    Calls Tryd.prog 63 #[.string (bs s)] w fun e w' => e = .returned (.string (bs (Oct.text s))) ∧ Ext w w' := by
  have hp := Oct.put_length s.length
  have hn := Oct.need_le s.length
  have HP := Lib.hid hp
  have hpl : (Oct.put s.length).length ≤ 9 := by omega
  clear hp hn
  go_enter Tryd.func63, Tryd.ntmps63
  go_wp2_with fail
  refine (Put_calls _ _ (by omega) (by omega)).mono ?_; rintro e w1 ⟨rfl, h1⟩
  rw [Int.toNat_natCast]
  go_wp2_with fail
  go_ret
  exact ⟨rfl, h1⟩

/-! ### Reading lists -/
theorem info_str : (Tryd.prog.info? 9).map (fun i => (i.zero, i.size, i.bytes)) = some (some (.string .empty), 1, 16) := by kernel_rfl

end Go.Proofs.YtcgnjdkennkheaaDoor
