/-
  The walks of layer 15 (record): the document's answers; reading.
-/
import Derived.Test.YtnpmojfjoemelaaRec2
set_option linter.unusedVariables false
set_option linter.unusedSimpArgs false
namespace Go.Proofs.Ytnpmojfjoemelaa
open Go.RowKit
attribute [local go_sem] bs_size bs_toList2 bs_append bs_extract_end bs_extract_begin bs_get wrap64_b

theorem Read_some (s : List UInt8) (w : World) :
    Calls Try.prog 24 #[.string (bs s)] w fun e w' => ∃ g, e = .returned (.pointer (some ⟨g, 0, none⟩)) ∧ w.heap.size ≤ g ∧ ScAt w' g ⟨s, false⟩ ∧ Ext w w' :=
  (Read_calls s w).mono fun e w' ⟨he, hw⟩ => ⟨w.heap.size, he, Nat.le_refl _, by subst hw; exact Read_at s w, by subst hw; exact (Ext.refl w).alloc _⟩

theorem res_ct {P : Program} {fn : Func} {p u : Tmp} {ty : TypeId} (h : fn.results = #[.cell p ty, .tmp u]) (tmps : Array Value) (w : World) (g : Nat) (t : TypeId) (cs : Array Value) (d : TypeDesc)
    (hp : tmps.getD p undef = .pointer (some ⟨g, 0, none⟩)) (hg : Blk w g t cs)
    (hu : P.underlying ty = some d) (hd : (match d with | .struct _ | .array _ _ => true | _ => false) = true) (hi : (P.info? ty).map (·.size) = some cs.size) :
    (results fn tmps).run P w = .ok (.tuple #[.agg cs, tmps.getD u undef]) w := by
  have hp' : tmps[p]?.getD undef = .pointer (some ⟨g, 0, none⟩) := by simpa using hp
  simp [results, h, hp', asAddr, run_loadVar_row w g t ty cs (0, 0) d hg hu hd hi]

theorem RecAt.idx {w : World} {g : Nat} {r : Rc} (h : RecAt w g r) (v : Int) : RecAt (w.setCell ⟨g, 1, none⟩ (.int .i64 v)) g ⟨r.win, v, r.time, r.pay⟩ := Blk.set_ h 1 _
theorem RecAt.time {w : World} {g : Nat} {r : Rc} (h : RecAt w g r) (v : Int) : RecAt (w.setCell ⟨g, 2, none⟩ (.int .i64 v)) g ⟨r.win, r.idx, v, r.pay⟩ := Blk.set_ h 2 _
theorem RecAt.pay {w : World} {g : Nat} {r : Rc} (h : RecAt w g r) (v : List UInt8) : RecAt (w.setCell ⟨g, 3, none⟩ (.string (bs v))) g ⟨r.win, r.idx, r.time, v⟩ := Blk.set_ h 3 _

/-- What Read answers: the record, and the error. -/
def Rc.read (s : List UInt8) : Rc × Int :=
  let a := Oct.Sc.num ⟨s, false⟩ 1125899906842624
  let b := a.2.num 3999
  let c := b.2.num 1125899906842624
  let d := c.2.text 2000
  if d.2.endE = 0 then (⟨a.1, b.1, c.1, d.1⟩, 0) else (⟨0, 0, 0, []⟩, 10)

set_option maxRecDepth 100000 in
set_option maxHeartbeats 1000000 in
theorem refCheck_calls (r : Rc) (w : World) (hp : r.pay.length ≤ 9223372036854775807) :
    Calls Try.prog 46 #[r.v] w fun e w' => e = .returned (.int .i64 r.check) ∧ Ext w w' := by
  unfold Rc.v
  go_enter Try.func46, Try.ntmps46
  go_wp2_with fail
  all_goals
    go_ret
    refine ⟨ret_int ?_, (Ext.refl w).alloc _⟩
    first
      | exact Rc.check_0 r (by unfold Rc.may; omega) (by omega)
      | exact Rc.check_11 r (by unfold Rc.may; omega) (by omega)
      | exact Rc.check_1 r (by unfold Rc.may; omega)

set_option maxRecDepth 100000 in
set_option maxHeartbeats 1000000 in
theorem refRow_calls (B : Nat) (A : Option Addr) (cap : Nat) (l : List Rc) (w : World) (h : Rd w B A (l.flatMap Rc.cells)) (hB : B ≤ w.heap.size) (hl : l.length ≤ 1099511627776) (hp : ∀ r ∈ l, r.pay.length ≤ 1099511627776) (hlen : (Rc.row l).length ≤ 140737488355328) :
    Calls Try.prog 48 #[.slice A l.length cap] w fun e w' => e = .returned (.string (bs (Rc.row l))) ∧ Ext w w' := by
  go_enter Try.func48, Try.ntmps48
  go_wp2_with fail
  go_loopw [3, 4] (fun sv v wr => ∃ k : Nat, k ≤ l.length ∧ v = .int .i64 k ∧ sv = .string (bs (Rc.row (l.take k))) ∧ Ext w wr) (fun _ v _ => l.length - (intOf v).toNat)
  case atStart => exact ⟨0, Nat.zero_le _, rfl, rfl, Ext.refl w⟩
  case round =>
    obtain ⟨k, hk, rfl, rfl, hE⟩ := hrel
    by_cases hlt : k < l.length
    · obtain ⟨b, off, rfl, hbB, c0, c1, c2, c3⟩ := rec_cells (h.below hE hB) hlt
      have hpk := hp _ (List.getElem_mem hlt)
      have hsn := Rc.row_snoc l k hlt
      have hil := Rc.inRow_length l[k]
      have hrl : (Rc.row (l.take k)).length + (l[k].inRow).length ≤ 140737488355328 := by
        have h1 : Rc.row l = Rc.row (l.take (k + 1)) ++ Rc.row (l.drop (k + 1)) := by rw [← Rc.row_append, List.take_append_drop]
        rw [h1, hsn] at hlen
        simp only [List.length_append] at hlen
        omega
      have HS := Lib.hid hsn
      clear hsn
      generalize l[k] = r at *
      have hw := u64_wrap r.time
      have hu := Rc.u64_lt r.time
      have hk0 : (0 : Int) ≤ (k : Int) := by omega
      have hk1 : (k : Int) < (l.length : Int) := by omega
      have hq : (Oct.put (Rc.u64 r.time)).length + (Oct.text r.pay).length = r.inRow.length := by simp [Rc.inRow]
      have hn1 : ¬ (9223372036854775807 < (Rc.row (l.take k)).length + (Oct.put (Rc.u64 r.time)).length) := by omega
      have hn2 : ¬ (9223372036854775807 < (Rc.row (l.take k)).length + (Oct.put (Rc.u64 r.time)).length + (Oct.text r.pay).length) := by omega
      have hn3 : ¬ (9223372036854775807 < (Rc.row (l.take k)).length + ((Oct.put (Rc.u64 r.time)).length + (Oct.text r.pay).length)) := by omega
      have hbw : b < wr.heap.size := Nat.lt_of_lt_of_le hbB (Nat.le_trans hB hE.size)
      go_wp2_with fail
      go_region_law (first
        | (go_simp; go_at_call 32; refine (refPut_calls (Rc.u64 r.time) _ (by omega) (by omega)).mono ?_; rintro e w2 ⟨rfl, e2⟩; rw [Int.toNat_natCast]; have d3 : w2.cell? ⟨b, off + k * 4 + 3, none⟩ = some (.string (bs r.pay)) := (e2.cell (p := ⟨b, off + k * 4 + 3, none⟩) hbw).trans c3)
        | (go_simp; go_at_call 34; refine (refText_calls r.pay _ (by omega)).mono ?_; rintro e w3 ⟨rfl, e3⟩))
      all_goals
        go_wp2
        go_roundw
        case rel => exact ⟨k + 1, by omega, by go_num, by rw [HS.out]; rfl, (hE.drew.trans e2).trans e3⟩
        case measure => simp [intOf]; omega
    · have hall : l.take k = l := List.take_of_length_le (by omega)
      go_wp2_with fail
      go_ret
      exact ⟨by rw [hall]; rfl, hE⟩

set_option maxRecDepth 100000 in
set_option maxHeartbeats 1000000 in
theorem recRead_calls (s : List UInt8) (w : World) (hl : s.length ≤ 1099511627776) :
    Calls Try.prog 51 #[.string (bs s)] w fun e w' => e = .returned (.tuple #[(Rc.read s).1.v, .int .i64 (Rc.read s).2]) ∧ Ext w w' := by
  go_enter Try.func51, Try.ntmps51
  go_wp2_with fail
  refine (Read_some s _).mono ?_; rintro e w2 ⟨g, rfl, hg, hS, e2⟩
  have hR2 : RecAt w2 w.heap.size ⟨0, 0, 0, []⟩ := RecAt.ext (Blk.new w _ _) e2
  have E2 : Ext w w2 := ((Ext.refl w).alloc _).trans e2
  have hg1 : w.heap.size + 1 ≤ g := by simpa using hg
  clear e2 hg
  go_wp2_with fail
  refine (Num_calls g _ 1125899906842624 _ hS (by simp only; omega) (by omega) (by omega)).mono ?_; rintro e w3 ⟨rfl, hS3, hu3⟩
  have hal := Oct.num_left_le ⟨s, false⟩ 1125899906842624
  generalize ha : Oct.Sc.num ⟨s, false⟩ 1125899906842624 = a at *
  have HA := Lib.hid ha
  have hR3 : RecAt w3 w.heap.size ⟨0, 0, 0, []⟩ := Blk.grown hR2 hu3 (by simp; omega)
  have E3 := E2.upd hu3 (by omega)
  have hgl := Blk.lt hS3
  simp only at hal
  clear hS hu3 hR2 E2 ha
  go_wp2_with fail
  refine (Num_calls g _ 3999 _ (Blk.alloc hS3 _) (by omega) (by omega) (by omega)).mono ?_; rintro e w4 ⟨rfl, hS4, hu4⟩
  have hbl := Oct.num_left_le a.2 3999
  generalize hb : a.2.num 3999 = b at *
  have HB := Lib.hid hb
  have hR4 : RecAt w4 w.heap.size ⟨0, 0, 0, []⟩ := Blk.grown (Blk.alloc hR3 _) hu4 (by simp; omega)
  have hr4 : RecAt w4 w3.heap.size ⟨a.1, 0, 0, []⟩ := Blk.grown (Blk.new w3 _ _) hu4 (by simp; omega)
  have E4 := (E3.alloc (.cells #[.int .i64 a.1, .int .i64 0, .int .i64 0, .string ⟨#[]⟩] 28)).upd hu4 (by omega)
  clear hS3 hu4 hR3 E3 hb
  obtain ⟨d0, d1, d2, d3⟩ := hr4.cells
  obtain ⟨f0, f1, f2, f3⟩ := hr4.frozen
  go_wp2_with fail
  refine (Num_calls g _ 1125899906842624 _ (Blk.far hS4 (p := ⟨w3.heap.size, 1, none⟩) (by simp; omega) _) (by omega) (by omega) (by omega)).mono ?_; rintro e w5 ⟨rfl, hS5, hu5⟩
  have hcl := Oct.num_left_le b.2 1125899906842624
  generalize hc : b.2.num 1125899906842624 = c at *
  have HC := Lib.hid hc
  have hR5 : RecAt w5 w.heap.size ⟨0, 0, 0, []⟩ := Blk.grown (Blk.far hR4 (p := ⟨w3.heap.size, 1, none⟩) (by simp; omega) (.int .i64 b.1)) hu5 (by simp; omega)
  have hr5 : RecAt w5 w3.heap.size ⟨a.1, b.1, 0, []⟩ := Blk.grown (hr4.idx b.1) hu5 (by simp; omega)
  have E5 := (E4.setCell (p := ⟨w3.heap.size, 1, none⟩) (by simp; omega) (.int .i64 b.1)).upd hu5 (by omega)
  clear hS4 hu5 hR4 hr4 E4 hc d0 d1 d2 d3 f0 f1 f2 f3
  obtain ⟨d0, d1, d2, d3⟩ := hr5.cells
  obtain ⟨f0, f1, f2, f3⟩ := hr5.frozen
  go_wp2_with fail
  refine (ScText_calls g _ 2000 _ (Blk.far hS5 (p := ⟨w3.heap.size, 2, none⟩) (by simp; omega) _) (by omega) (by omega) (by omega)).mono ?_; rintro e w6 ⟨rfl, hS6, hu6⟩
  generalize hd : c.2.text 2000 = d at *
  have HD := Lib.hid hd
  have hR6 : RecAt w6 w.heap.size ⟨0, 0, 0, []⟩ := Blk.grown (Blk.far hR5 (p := ⟨w3.heap.size, 2, none⟩) (by simp; omega) (.int .i64 c.1)) hu6 (by simp; omega)
  have hr6 : RecAt w6 w3.heap.size ⟨a.1, b.1, c.1, []⟩ := Blk.grown (hr5.time c.1) hu6 (by simp; omega)
  have E6 := (E5.setCell (p := ⟨w3.heap.size, 2, none⟩) (by simp; omega) (.int .i64 c.1)).upd hu6 (by omega)
  clear hS5 hu6 hR5 hr5 E5 hd d0 d1 d2 d3 f0 f1 f2 f3
  obtain ⟨d0, d1, d2, d3⟩ := hr6.cells
  obtain ⟨f0, f1, f2, f3⟩ := hr6.frozen
  obtain ⟨g0, g1, g2, g3⟩ := hR6.cells
  obtain ⟨h0, h1, h2, h3⟩ := hR6.frozen
  have hread : Rc.read s = if d.2.endE = 0 then (⟨a.1, b.1, c.1, d.1⟩, 0) else (⟨0, 0, 0, []⟩, 10) := by
    unfold Rc.read
    simp only [HA.out, HB.out, HC.out, HD.out]
  go_wp2_with fail
  refine (End_calls g _ _ (Blk.far hS6 (p := ⟨w3.heap.size, 3, none⟩) (by simp; omega) _)).mono ?_; rintro e w7 ⟨rfl, rfl⟩
  have hR7 : RecAt (w6.setCell ⟨w3.heap.size, 3, none⟩ (.string (bs d.1))) w.heap.size ⟨0, 0, 0, []⟩ := Blk.far hR6 (p := ⟨w3.heap.size, 3, none⟩) (by simp; omega) _
  have hr7 := hr6.pay d.1
  have E7 := E6.setCell (p := ⟨w3.heap.size, 3, none⟩) (by simp; omega) (.string (bs d.1))
  rcases (show (d.2.endE = 0 ∧ (d.2.endE != 0) = false) ∨ (d.2.endE ≠ 0 ∧ (d.2.endE != 0) = true) from by
    by_cases h : d.2.endE = 0
    · exact .inl ⟨h, by simp [h]⟩
    · exact .inr ⟨h, by simp [h]⟩) with ⟨k1, k2⟩ | ⟨k1, k2⟩
  · rw [if_pos k1] at hread
    have HR := Lib.hid hread
    clear hread k1
    go_wp2_with fail
    (try simp only [Exit.inBlock, Exit.then]); refine bodyPost_ret (res_ct rfl _ _ w.heap.size 28 _ _ rfl (hR7.store ⟨a.1, b.1, c.1, d.1⟩) Try.underlying28 rfl (by kernel_rfl)) rfl ?_
    exact ⟨by rw [HR.out]; rfl, (((E7.setCell (p := ⟨w.heap.size, 0, none⟩) (Nat.le_refl _) _).setCell (p := ⟨w.heap.size, 1, none⟩) (Nat.le_refl _) _).setCell (p := ⟨w.heap.size, 2, none⟩) (Nat.le_refl _) _).setCell (p := ⟨w.heap.size, 3, none⟩) (Nat.le_refl _) _⟩
  · rw [if_neg k1] at hread
    have HR := Lib.hid hread
    clear hread k1
    go_wp2_with fail
    (try simp only [Exit.inBlock, Exit.then]); refine bodyPost_ret (res_ct rfl _ _ w.heap.size 28 _ _ rfl (hR7.store ⟨0, 0, 0, []⟩) Try.underlying28 rfl (by kernel_rfl)) rfl ?_
    exact ⟨by rw [HR.out]; rfl, (((E7.setCell (p := ⟨w.heap.size, 0, none⟩) (Nat.le_refl _) _).setCell (p := ⟨w.heap.size, 1, none⟩) (Nat.le_refl _) _).setCell (p := ⟨w.heap.size, 2, none⟩) (Nat.le_refl _) _).setCell (p := ⟨w.heap.size, 3, none⟩) (Nat.le_refl _) _⟩

end Go.Proofs.Ytnpmojfjoemelaa
