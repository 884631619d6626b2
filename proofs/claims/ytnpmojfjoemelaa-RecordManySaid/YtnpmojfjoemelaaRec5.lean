/-
  The walks of layer 15 (record): the document's Read, and Same.
-/
import Derived.Test.YtnpmojfjoemelaaRec4
set_option linter.unusedVariables false
set_option linter.unusedSimpArgs false
namespace Go.Proofs.Ytnpmojfjoemelaa
open Go.RowKit
attribute [local go_sem] bs_size bs_toList2 bs_append bs_extract_end bs_extract_begin bs_get wrap64_b

set_option maxRecDepth 100000 in
set_option maxHeartbeats 1000000 in
theorem refRead_calls (s : List UInt8) (w : World) (hl : s.length ≤ 1099511627776) :
    Calls Try.prog 52 #[.string (bs s)] w fun e w' => e = .returned (.tuple #[(Rc.read s).1.v, .int .i64 (Rc.read s).2]) ∧ Ext w w' := by
  go_enter Try.func52, Try.ntmps52
  have hS : RfAt ((w.alloc (.cells #[.int .i64 0, .int .i64 0, .int .i64 0, .string ⟨#[]⟩] 28)).alloc (.cells #[.string (bs s), .int .i64 0, .bool false] 55)) (w.heap.size + 1) s ⟨s, false⟩ := ⟨0, Nat.zero_le _, by have := Blk.new (w.alloc (.cells #[.int .i64 0, .int .i64 0, .int .i64 0, .string ⟨#[]⟩] 28)) 55 #[.string (bs s), .int .i64 0, .bool false]; simpa using this, fun _ => rfl⟩
  have hR2 : RecAt ((w.alloc (.cells #[.int .i64 0, .int .i64 0, .int .i64 0, .string ⟨#[]⟩] 28)).alloc (.cells #[.string (bs s), .int .i64 0, .bool false] 55)) w.heap.size ⟨0, 0, 0, []⟩ := Blk.alloc (Blk.new w _ _) _
  have E2 := ((Ext.refl w).alloc (.cells #[.int .i64 0, .int .i64 0, .int .i64 0, .string ⟨#[]⟩] 28)).alloc (.cells #[.string (bs s), .int .i64 0, .bool false] 55)
  go_wp2_with fail
  generalize hgg : w.heap.size + 1 = g at *
  have hg1 : w.heap.size + 1 ≤ g := by omega
  clear hgg
  refine (rfNum_calls g s _ 1125899906842624 _ hS hl (by omega) (by omega)).mono ?_; rintro e w3 ⟨rfl, hS3, hu3⟩
  have hal := Oct.num_left_le ⟨s, false⟩ 1125899906842624
  generalize ha : Oct.Sc.num ⟨s, false⟩ 1125899906842624 = a at *
  have HA := Lib.hid ha
  have hR3 : RecAt w3 w.heap.size ⟨0, 0, 0, []⟩ := Blk.grown hR2 hu3 (by simp; omega)
  have E3 := E2.upd hu3 (by omega)
  have hgl := hS3.lt
  simp only at hal
  clear hS hu3 hR2 E2 ha
  go_wp2_with fail
  refine (rfNum_calls g s _ 3999 _ (hS3.alloc _) hl (by omega) (by omega)).mono ?_; rintro e w4 ⟨rfl, hS4, hu4⟩
  have hbl := Oct.num_left_le a.2 3999
  generalize hb : a.2.num 3999 = b at *
  have HB := Lib.hid hb
  have hR4 : RecAt w4 w.heap.size ⟨0, 0, 0, []⟩ := Blk.grown (Blk.alloc hR3 _) hu4 (by simp; omega)
  have hr4 : RecAt w4 w3.heap.size ⟨a.1, 0, 0, []⟩ := Blk.grown (Blk.new w3 _ _) hu4 (by simp; omega)
  have E4 := (E3.alloc (.cells #[.int .i64 a.1, .int .i64 0, .int .i64 0, .string ⟨#[]⟩] 28)).upd hu4 (by omega)
  clear hS3 hu4 hR3 E3 hb
  obtain ⟨d0, d1, d2, d3⟩ := hr4.cells
  obtain ⟨f0, f1, f2, f3⟩ := hr4.frozen
  go_wp2_with fail
  refine (rfNum_calls g s _ 1125899906842624 _ (hS4.far (p := ⟨w3.heap.size, 1, none⟩) (by simp; omega) _) hl (by omega) (by omega)).mono ?_; rintro e w5 ⟨rfl, hS5, hu5⟩
  have hcl := Oct.num_left_le b.2 1125899906842624
  generalize hc : b.2.num 1125899906842624 = c at *
  have HC := Lib.hid hc
  have hR5 : RecAt w5 w.heap.size ⟨0, 0, 0, []⟩ := Blk.grown (Blk.far hR4 (p := ⟨w3.heap.size, 1, none⟩) (by simp; omega) (.int .i64 b.1)) hu5 (by simp; omega)
  have hr5 : RecAt w5 w3.heap.size ⟨a.1, b.1, 0, []⟩ := Blk.grown (hr4.idx b.1) hu5 (by simp; omega)
  have E5 := (E4.setCell (p := ⟨w3.heap.size, 1, none⟩) (by simp; omega) (.int .i64 b.1)).upd hu5 (by omega)
  clear hS4 hu5 hR4 hr4 E4 hc d0 d1 d2 d3 f0 f1 f2 f3
  obtain ⟨d0, d1, d2, d3⟩ := hr5.cells
  obtain ⟨f0, f1, f2, f3⟩ := hr5.frozen
  go_wp2_with fail
  refine (rfText_calls g s _ 2000 _ (hS5.far (p := ⟨w3.heap.size, 2, none⟩) (by simp; omega) _) hl (by omega) (by omega)).mono ?_; rintro e w6 ⟨rfl, hS6, hu6⟩
  generalize hd : c.2.text 2000 = d at *
  have HD := Lib.hid hd
  have hR6 : RecAt w6 w.heap.size ⟨0, 0, 0, []⟩ := Blk.grown (Blk.far hR5 (p := ⟨w3.heap.size, 2, none⟩) (by simp; omega) (.int .i64 c.1)) hu6 (by simp; omega)
  have hr6 : RecAt w6 w3.heap.size ⟨a.1, b.1, c.1, []⟩ := Blk.grown (hr5.time c.1) hu6 (by simp; omega)
  have E6 := (E5.setCell (p := ⟨w3.heap.size, 2, none⟩) (by simp; omega) (.int .i64 c.1)).upd hu6 (by omega)
  clear hS5 hu6 hR5 hr5 E5 hd d0 d1 d2 d3 f0 f1 f2 f3
  obtain ⟨d0, d1, d2, d3⟩ := hr6.cells
  obtain ⟨f0, f1, f2, f3⟩ := hr6.frozen
  obtain ⟨g0, g1, g2, g3⟩ := hR6.cells
  obtain ⟨h0, h1, h2, h3⟩ := hR6.frozen
  have hread : Rc.read s = if d.2.endE = 0 then (⟨a.1, b.1, c.1, d.1⟩, 0) else (⟨0, 0, 0, []⟩, 10) := by
    unfold Rc.read
    simp only [HA.out, HB.out, HC.out, HD.out]
  go_wp2_with fail
  refine (rfEnd_calls g s _ _ (hS6.far (p := ⟨w3.heap.size, 3, none⟩) (by simp; omega) _) hl).mono ?_; rintro e w7 ⟨rfl, z, rfl⟩
  have hR7 : RecAt ((w6.setCell ⟨w3.heap.size, 3, none⟩ (.string (bs d.1))).drewN z) w.heap.size ⟨0, 0, 0, []⟩ := Blk.far hR6 (p := ⟨w3.heap.size, 3, none⟩) (by simp; omega) _
  have E7 := (E6.setCell (p := ⟨w3.heap.size, 3, none⟩) (by simp; omega) (.string (bs d.1))).drewN z
  rcases (show (d.2.endE = 0 ∧ (d.2.endE != 0) = false) ∨ (d.2.endE ≠ 0 ∧ (d.2.endE != 0) = true) from by
    by_cases h : d.2.endE = 0
    · exact .inl ⟨h, by simp [h]⟩
    · exact .inr ⟨h, by simp [h]⟩) with ⟨k1, k2⟩ | ⟨k1, k2⟩
  · rw [if_pos k1] at hread
    have HR := Lib.hid hread
    clear hread k1
    go_wp2_with fail
    (try simp only [Exit.inBlock, Exit.then]); refine bodyPost_ret (res_ct rfl _ _ w.heap.size 28 _ _ rfl (hR7.store ⟨a.1, b.1, c.1, d.1⟩) Try.underlying28 rfl (by kernel_rfl)) rfl ?_
    exact ⟨by rw [HR.out]; rfl, (((E7.setCell (p := ⟨w.heap.size, 0, none⟩) (Nat.le_refl _) _).setCell (p := ⟨w.heap.size, 1, none⟩) (Nat.le_refl _) _).setCell (p := ⟨w.heap.size, 2, none⟩) (Nat.le_refl _) _).setCell (p := ⟨w.heap.size, 3, none⟩) (Nat.le_refl _) _⟩
  · rw [if_neg k1] at hread
    have HR := Lib.hid hread
    clear hread k1
    go_wp2_with fail
    (try simp only [Exit.inBlock, Exit.then]); refine bodyPost_ret (res_ct rfl _ _ w.heap.size 28 _ _ rfl (hR7.store ⟨0, 0, 0, []⟩) Try.underlying28 rfl (by kernel_rfl)) rfl ?_
    exact ⟨by rw [HR.out]; rfl, (((E7.setCell (p := ⟨w.heap.size, 0, none⟩) (Nat.le_refl _) _).setCell (p := ⟨w.heap.size, 1, none⟩) (Nat.le_refl _) _).setCell (p := ⟨w.heap.size, 2, none⟩) (Nat.le_refl _) _).setCell (p := ⟨w.heap.size, 3, none⟩) (Nat.le_refl _) _⟩

set_option maxRecDepth 100000 in
set_option maxHeartbeats 1000000 in
theorem Same15_calls (B : Nat) (A A' : Option Addr) (c c' : Nat) (l : List Rc) (w : World) (h : Rd w B A (l.flatMap Rc.cells)) (h' : Rd w B A' (l.flatMap Rc.cells)) (hB : B ≤ w.heap.size) (hl : l.length ≤ 1099511627776) :
    Calls Try.prog 50 #[.slice A l.length c, .slice A' l.length c'] w fun e w' => e = .returned (.bool true) ∧ Ext w w' := by
  go_enter Try.func50, Try.ntmps50
  go_wp2
  go_loopw [5] (fun i wr => ∃ k : Nat, k ≤ l.length ∧ i = .int .i64 k ∧ Ext w wr) (fun i _ => l.length - (intOf i).toNat)
  case atStart => exact ⟨0, Nat.zero_le _, rfl, Ext.refl _⟩
  case round =>
    obtain ⟨k, hk, rfl, hE⟩ := hrel
    by_cases hlt : k < l.length
    · obtain ⟨b, off, rfl, hbB, c0, c1, c2, c3⟩ := rec_cells (h.below hE hB) hlt
      obtain ⟨b', off', rfl, hbB', d0, d1, d2, d3⟩ := rec_cells (h'.below hE hB) hlt
      have hk0 : (0 : Int) ≤ (k : Int) := by omega
      have hk1 : (k : Int) < (l.length : Int) := by omega
      generalize l[k] = r at *
      go_wp2
      go_quiet (fail)
      go_wp2
      go_roundw
      case rel => exact ⟨k + 1, by omega, by go_num, hE.drewN _⟩
      case measure => simp [intOf]; omega
    · go_wp2
      go_ret
      exact ⟨rfl, hE⟩

end Go.Proofs.Ytnpmojfjoemelaa
