/-
  The walks of layer 15 (record): the document's answers; reading.
-/
import Derived.Test.YtlcimlencoaiiaaDoorRec2
set_option linter.unusedVariables false
set_option maxRecDepth 100000
set_option linter.unusedSimpArgs false
namespace Go.Proofs.YtlcimlencoaiiaaDoor
open Go.RowKit
attribute [local go_sem] bs_size bs_toList2 bs_append bs_extract_end bs_extract_begin bs_get wrap64_b

theorem Read_some (s : List UInt8) (w : World) :
    Calls Tryd.prog 74 #[.string (bs s)] w fun e w' => ∃ g, e = .returned (.pointer (some ⟨g, 0, none⟩)) ∧ w.heap.size ≤ g ∧ ScAt w' g ⟨s, false⟩ ∧ Ext w w' :=
  (Read_calls s w).mono fun e w' ⟨he, hw⟩ => ⟨w.heap.size, he, Nat.le_refl _, by subst hw; exact Read_at s w, by subst hw; exact (Ext.refl w).alloc _⟩

theorem res_ctr {P : Program} {fn : Func} {p u : Tmp} {ty : TypeId} (h : fn.results = #[.cell p ty, .tmp u]) (tmps : Array Value) (w : World) (g : Nat) (t : TypeId) (cs : Array Value) (d : TypeDesc)
    (hp : tmps.getD p undef = .pointer (some ⟨g, 0, none⟩)) (hg : Blk w g t cs)
    (hu : P.underlying ty = some d) (hd : (match d with | .struct _ | .array _ _ => true | _ => false) = true) (hi : (P.info? ty).map (·.size) = some cs.size) :
    (results fn tmps).run P w = .ok (.tuple #[.agg cs, tmps.getD u undef]) w := by
  have hp' : tmps[p]?.getD undef = .pointer (some ⟨g, 0, none⟩) := by simpa using hp
  simp [results, h, hp', asAddr, run_loadVar_row w g t ty cs (0, 0) d hg hu hd hi]

theorem RecAt.idx {w : World} {g : Nat} {r : Rc} (h : RecAt w g r) (v : Int) : RecAt (w.setCell ⟨g, 1, none⟩ (.int .i64 v)) g ⟨r.win, v, r.time, r.pay⟩ := Blk.set_ h 1 _
theorem RecAt.time {w : World} {g : Nat} {r : Rc} (h : RecAt w g r) (v : Int) : RecAt (w.setCell ⟨g, 2, none⟩ (.int .i64 v)) g ⟨r.win, r.idx, v, r.pay⟩ := Blk.set_ h 2 _
theorem RecAt.pay {w : World} {g : Nat} {r : Rc} (h : RecAt w g r) (v : List UInt8) : RecAt (w.setCell ⟨g, 3, none⟩ (.string (bs v))) g ⟨r.win, r.idx, r.time, v⟩ := Blk.set_ h 3 _

/-- What Read answers: the record, and the error. -/
def Rc.read (s : List UInt8) : Rc × Int :=
  let a := Oct.Sc.num ⟨s, false⟩ 1125899906842624
  let b := a.2.num 3999
  let c := b.2.num 1125899906842624
  let d := c.2.text 2000
  if d.2.endE = 0 then (⟨a.1, b.1, c.1, d.1⟩, 0) else (⟨0, 0, 0, []⟩, 10)

set_option maxRecDepth 100000 in
set_option maxHeartbeats 1000000 in
theorem refCheck_calls (r : Rc) (w : World) (hp : r.pay.length ≤ 9223372036854775807) :
    Calls Tryd.prog 39 #[r.v] w fun e w' => e = .returned (.int .i64 r.check) ∧ Ext w w' := by
  unfold Rc.v
  go_enter Tryd.func39, Tryd.ntmps39
  go_wp2_with fail
  all_goals
    go_ret
    refine ⟨ret_int ?_, (Ext.refl w).alloc _⟩
    first
      | exact Rc.check_0 r (by unfold Rc.may; omega) (by omega)
      | exact Rc.check_11 r (by unfold Rc.may; omega) (by omega)
      | exact Rc.check_1 r (by unfold Rc.may; omega)

set_option maxRecDepth 100000 in
set_option maxHeartbeats 1000000 in
theorem recRead_calls (s : List UInt8) (w : World) (hl : s.length ≤ 1099511627776) :
    Calls Tryd.prog 42 #[.string (bs s)] w fun e w' => e = .returned (.tuple #[(Rc.read s).1.v, .int .i64 (Rc.read s).2]) ∧ Ext w w' := by
  go_enter Tryd.func42, Tryd.ntmps42
  go_wp2_with fail
  refine (Read_some s _).mono ?_; rintro e w2 ⟨g, rfl, hg, hS, e2⟩
  have hR2 : RecAt w2 w.heap.size ⟨0, 0, 0, []⟩ := RecAt.ext (Blk.new w _ _) e2
  have E2 : Ext w w2 := ((Ext.refl w).alloc _).trans e2
  have hg1 : w.heap.size + 1 ≤ g := by simpa using hg
  clear e2 hg
  go_wp2_with fail
  refine (Num_calls g _ 1125899906842624 _ hS (by simp only; omega) (by omega) (by omega)).mono ?_; rintro e w3 ⟨rfl, hS3, hu3⟩
  have hal := Oct.num_left_le ⟨s, false⟩ 1125899906842624
  generalize ha : Oct.Sc.num ⟨s, false⟩ 1125899906842624 = a at *
  have HA := Lib.hid ha
  have hR3 : RecAt w3 w.heap.size ⟨0, 0, 0, []⟩ := Blk.grown hR2 hu3 (by simp; omega)
  have E3 := E2.upd hu3 (by omega)
  have hgl := Blk.lt hS3
  simp only at hal
  clear hS hu3 hR2 E2 ha
  go_wp2_with fail
  refine (Num_calls g _ 3999 _ (Blk.alloc hS3 _) (by omega) (by omega) (by omega)).mono ?_; rintro e w4 ⟨rfl, hS4, hu4⟩
  have hbl := Oct.num_left_le a.2 3999
  generalize hb : a.2.num 3999 = b at *
  have HB := Lib.hid hb
  have hR4 : RecAt w4 w.heap.size ⟨0, 0, 0, []⟩ := Blk.grown (Blk.alloc hR3 _) hu4 (by simp; omega)
  have hr4 : RecAt w4 w3.heap.size ⟨a.1, 0, 0, []⟩ := Blk.grown (Blk.new w3 _ _) hu4 (by simp; omega)
  have E4 := (E3.alloc (.cells #[.int .i64 a.1, .int .i64 0, .int .i64 0, .string ⟨#[]⟩] 45)).upd hu4 (by omega)
  clear hS3 hu4 hR3 E3 hb
  obtain ⟨d0, d1, d2, d3⟩ := hr4.cells
  obtain ⟨f0, f1, f2, f3⟩ := hr4.frozen
  go_wp2_with fail
  refine (Num_calls g _ 1125899906842624 _ (Blk.far hS4 (p := ⟨w3.heap.size, 1, none⟩) (by simp; omega) _) (by omega) (by omega) (by omega)).mono ?_; rintro e w5 ⟨rfl, hS5, hu5⟩
  have hcl := Oct.num_left_le b.2 1125899906842624
  generalize hc : b.2.num 1125899906842624 = c at *
  have HC := Lib.hid hc
  have hR5 : RecAt w5 w.heap.size ⟨0, 0, 0, []⟩ := Blk.grown (Blk.far hR4 (p := ⟨w3.heap.size, 1, none⟩) (by simp; omega) (.int .i64 b.1)) hu5 (by simp; omega)
  have hr5 : RecAt w5 w3.heap.size ⟨a.1, b.1, 0, []⟩ := Blk.grown (hr4.idx b.1) hu5 (by simp; omega)
  have E5 := (E4.setCell (p := ⟨w3.heap.size, 1, none⟩) (by simp; omega) (.int .i64 b.1)).upd hu5 (by omega)
  clear hS4 hu5 hR4 hr4 E4 hc d0 d1 d2 d3 f0 f1 f2 f3
  obtain ⟨d0, d1, d2, d3⟩ := hr5.cells
  obtain ⟨f0, f1, f2, f3⟩ := hr5.frozen
  go_wp2_with fail
  refine (ScText_calls g _ 2000 _ (Blk.far hS5 (p := ⟨w3.heap.size, 2, none⟩) (by simp; omega) _) (by omega) (by omega) (by omega)).mono ?_; rintro e w6 ⟨rfl, hS6, hu6⟩
  generalize hd : c.2.text 2000 = d at *
  have HD := Lib.hid hd
  have hR6 : RecAt w6 w.heap.size ⟨0, 0, 0, []⟩ := Blk.grown (Blk.far hR5 (p := ⟨w3.heap.size, 2, none⟩) (by simp; omega) (.int .i64 c.1)) hu6 (by simp; omega)
  have hr6 : RecAt w6 w3.heap.size ⟨a.1, b.1, c.1, []⟩ := Blk.grown (hr5.time c.1) hu6 (by simp; omega)
  have E6 := (E5.setCell (p := ⟨w3.heap.size, 2, none⟩) (by simp; omega) (.int .i64 c.1)).upd hu6 (by omega)
  clear hS5 hu6 hR5 hr5 E5 hd d0 d1 d2 d3 f0 f1 f2 f3
  obtain ⟨d0, d1, d2, d3⟩ := hr6.cells
  obtain ⟨f0, f1, f2, f3⟩ := hr6.frozen
  obtain ⟨g0, g1, g2, g3⟩ := hR6.cells
  obtain ⟨h0, h1, h2, h3⟩ := hR6.frozen
  have hread : Rc.read s = if d.2.endE = 0 then (⟨a.1, b.1, c.1, d.1⟩, 0) else (⟨0, 0, 0, []⟩, 10) := by
    unfold Rc.read
    simp only [HA.out, HB.out, HC.out, HD.out]
  go_wp2_with fail
  refine (End_calls g _ _ (Blk.far hS6 (p := ⟨w3.heap.size, 3, none⟩) (by simp; omega) _)).mono ?_; rintro e w7 ⟨rfl, rfl⟩
  have hR7 : RecAt (w6.setCell ⟨w3.heap.size, 3, none⟩ (.string (bs d.1))) w.heap.size ⟨0, 0, 0, []⟩ := Blk.far hR6 (p := ⟨w3.heap.size, 3, none⟩) (by simp; omega) _
  have hr7 := hr6.pay d.1
  have E7 := E6.setCell (p := ⟨w3.heap.size, 3, none⟩) (by simp; omega) (.string (bs d.1))
  rcases (show (d.2.endE = 0 ∧ (d.2.endE != 0) = false) ∨ (d.2.endE ≠ 0 ∧ (d.2.endE != 0) = true) from by
    by_cases h : d.2.endE = 0
    · exact .inl ⟨h, by simp [h]⟩
    · exact .inr ⟨h, by simp [h]⟩) with ⟨k1, k2⟩ | ⟨k1, k2⟩
  · rw [if_pos k1] at hread
    have HR := Lib.hid hread
    clear hread k1
    go_wp2_with fail
    (try simp only [Exit.inBlock, Exit.then]); refine bodyPost_ret (res_ctr rfl _ _ w.heap.size 45 _ _ rfl (hR7.store ⟨a.1, b.1, c.1, d.1⟩) Tryd.underlying45 rfl (by kernel_rfl)) rfl ?_
    exact ⟨by rw [HR.out]; rfl, (((E7.setCell (p := ⟨w.heap.size, 0, none⟩) (Nat.le_refl _) _).setCell (p := ⟨w.heap.size, 1, none⟩) (Nat.le_refl _) _).setCell (p := ⟨w.heap.size, 2, none⟩) (Nat.le_refl _) _).setCell (p := ⟨w.heap.size, 3, none⟩) (Nat.le_refl _) _⟩
  · rw [if_neg k1] at hread
    have HR := Lib.hid hread
    clear hread k1
    go_wp2_with fail
    (try simp only [Exit.inBlock, Exit.then]); refine bodyPost_ret (res_ctr rfl _ _ w.heap.size 45 _ _ rfl (hR7.store ⟨0, 0, 0, []⟩) Tryd.underlying45 rfl (by kernel_rfl)) rfl ?_
    exact ⟨by rw [HR.out]; rfl, (((E7.setCell (p := ⟨w.heap.size, 0, none⟩) (Nat.le_refl _) _).setCell (p := ⟨w.heap.size, 1, none⟩) (Nat.le_refl _) _).setCell (p := ⟨w.heap.size, 2, none⟩) (Nat.le_refl _) _).setCell (p := ⟨w.heap.size, 3, none⟩) (Nat.le_refl _) _⟩

end Go.Proofs.YtlcimlencoaiiaaDoor
