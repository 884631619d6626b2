/-
  The walks of layer 15 (record): rows.
-/
import Derived.Test.YtlcimlencoaiiaaDoorRec
set_option linter.unusedVariables false
set_option maxRecDepth 100000
set_option linter.unusedSimpArgs false
namespace Go.Proofs.YtlcimlencoaiiaaDoor
open Go.RowKit
attribute [local go_sem] bs_size bs_toList2 bs_append bs_extract_end bs_extract_begin bs_get wrap64_b

/-- The cells of the k-th record of a list. -/
theorem rec_cells {w : World} {B : Nat} {A : Option Addr} {l : List Rc} (h : Rd w B A (l.flatMap Rc.cells)) {k : Nat} (hk : k < l.length) : ∃ b off, A = some ⟨b, off, none⟩ ∧ b < B ∧
    w.cell? ⟨b, off + k * 4, none⟩ = some (.int .i64 l[k].win) ∧ w.cell? ⟨b, off + k * 4 + 1, none⟩ = some (.int .i64 l[k].idx) ∧ w.cell? ⟨b, off + k * 4 + 2, none⟩ = some (.int .i64 l[k].time) ∧ w.cell? ⟨b, off + k * 4 + 3, none⟩ = some (.string (bs l[k].pay)) := by
  have hget : ∀ (l : List Rc) (k : Nat) (hk : k < l.length) (i : Nat), i < 4 → (l.flatMap Rc.cells)[4 * k + i]? = (l[k].cells)[i]? := by
    intro l
    induction l with
    | nil => intro k hk; simp at hk
    | cons r l ih =>
      intro k hk i hi
      rw [List.flatMap_cons]
      have h4 : r.cells.length = 4 := rfl
      cases k with
      | zero =>
        rw [List.getElem?_append_left (by omega)]
        simp
      | succ k =>
        rw [List.getElem?_append_right (by omega), h4]
        have := ih k (by simpa using hk) i hi
        rw [show 4 * (k + 1) + i - 4 = 4 * k + i from by omega, this]
        simp
  obtain ⟨b, off, rfl, hb, hc⟩ := h (by
    intro e
    have := hget l k hk 0 (by omega)
    rw [e] at this
    simp [Rc.cells] at this)
  refine ⟨b, off, rfl, hb, ?_, ?_, ?_, ?_⟩
  · have := hc (4 * k + 0) (.int .i64 l[k].win) (by rw [hget l k hk 0 (by omega)]; rfl)
    simpa [Nat.mul_comm] using this
  · have := hc (4 * k + 1) (.int .i64 l[k].idx) (by rw [hget l k hk 1 (by omega)]; rfl)
    simpa [Nat.add_assoc, Nat.mul_comm] using this
  · have := hc (4 * k + 2) (.int .i64 l[k].time) (by rw [hget l k hk 2 (by omega)]; rfl)
    simpa [Nat.add_assoc, Nat.mul_comm] using this
  · have := hc (4 * k + 3) (strV l[k].pay) (by rw [hget l k hk 3 (by omega)]; rfl)
    simpa [Nat.add_assoc, strV, Nat.mul_comm] using this

set_option maxRecDepth 100000 in
set_option maxHeartbeats 1000000 in
theorem recRow_calls (B : Nat) (A : Option Addr) (cap : Nat) (l : List Rc) (w : World) (h : Rd w B A (l.flatMap Rc.cells)) (hB : B ≤ w.heap.size) (hl : l.length ≤ 1099511627776) (hp : ∀ r ∈ l, r.pay.length ≤ 1099511627776) (hlen : (Rc.row l).length ≤ 140737488355328) :
    Calls Tryd.prog 66 #[.slice A l.length cap] w fun e w' => e = .returned (.string (bs (Rc.row l))) ∧ Ext w w' := by
  have hb0 := Lib.fresh_isBuilder 116 5 w
  go_enter Tryd.func66, Tryd.ntmps66
  go_wp2_with fail
  go_loopw [8] (fun v wr => ∃ k : Nat, k ≤ l.length ∧ v = .int .i64 k ∧ Lib.IsBuilder 116 5 w.heap.size w.heap.size (Lib.byteCells (Rc.row (l.take k))) wr ∧ Ext w wr) (fun v _ => l.length - (intOf v).toNat)
  case atStart => exact ⟨0, Nat.zero_le _, rfl, hb0, (Ext.refl w).alloc _⟩
  case round =>
    clear hb0
    obtain ⟨k, hk, rfl, hbr, hE⟩ := hrel
    by_cases hlt : k < l.length
    · obtain ⟨b, off, rfl, hbB, c0, c1, c2, c3⟩ := rec_cells (h.below hE hB) hlt
      have hpk := hp _ (List.getElem_mem hlt)
      have hsn := Rc.row_snoc l k hlt
      have hil := Rc.inRow_length l[k]
      have hrl : (Rc.row (l.take k)).length + (l[k].inRow).length ≤ 140737488355328 := by
        have h1 : Rc.row l = Rc.row (l.take (k + 1)) ++ Rc.row (l.drop (k + 1)) := by rw [← Rc.row_append, List.take_append_drop]
        rw [h1, hsn] at hlen
        simp only [List.length_append] at hlen
        omega
      have HS := Lib.hid hsn
      clear hsn
      generalize l[k] = r at *
      go_wp2_with fail
      refine (inRow_calls r _ (by omega)).mono ?_; rintro e w3 ⟨rfl, h3⟩
      go_wp2_with fail
      refine (WriteString_calls w.heap.size w.heap.size _ (bs r.inRow) w3 (builder_ext (builder_ext hbr ((Ext.refl wr).alloc _)) h3) (by rw [byteCells_length, bs_size]; omega) (by have := hE.size; have := h3.size; simp at this; omega)).mono ?_
      rintro e w4 ⟨rfl, hb4, hB4⟩
      rw [strCells_bs, ← byteCells_append, ← HS.out] at hb4
      have hE4 : Ext w w4 := Below.trans ((hE.alloc _).trans h3) hB4
      go_wp2_with fail
      go_roundw
      case rel => exact ⟨k + 1, by omega, by go_num, .inr hb4, hE4⟩
      case measure => simp [intOf]; omega
    · have hall : l.take k = l := List.take_of_length_le (by omega)
      rw [hall] at hbr
      go_wp2_with fail
      refine (String_calls w.heap.size w.heap.size _ wr hbr hE.size).mono ?_
      rintro e w5 ⟨rfl, hB5⟩
      go_wp2_with fail
      go_ret
      exact ⟨rfl, Below.trans hE hB5⟩

/-! ### The law's own -/
theorem short15_calls (l : List UInt8) (n : Nat) (w : World) (hl : l.length ≤ 9223372036854775807) (hn : n ≤ 9223372036854775807) :
    Calls Tryd.prog 68 #[.string (bs l), .int .i64 n] w fun e w' => e = .returned (.string (bs (l.take n))) ∧ w = w' := by
  by_cases h : n < l.length
  · go_enter Tryd.func68, Tryd.ntmps68
    go_wp2
    go_ret
    exact ⟨rfl, rfl⟩
  · have hn : l.take n = l := List.take_of_length_le (by omega)
    rw [hn]
    go_enter Tryd.func68, Tryd.ntmps68
    go_wp2
    go_ret
    exact ⟨rfl, rfl⟩

/-- small -/
def Rc.small (r : Rc) : Rc := ⟨r.win, r.idx, r.time, r.pay.take 2010⟩

theorem small_calls (r : Rc) (w : World) (hp : r.pay.length ≤ 9223372036854775807) :
    Calls Tryd.prog 35 #[r.v] w fun e w' => e = .returned r.small.v ∧ Ext w w' := by
  unfold Rc.v
  go_enter Tryd.func35, Tryd.ntmps35
  go_wp2_with fail
  refine (short15_calls r.pay 2010 _ hp (by omega)).mono ?_; rintro e w1 ⟨rfl, rfl⟩
  go_wp2_with fail
  (try simp only [Exit.inBlock, Exit.then]); refine bodyPost_ret (results_cell_row rfl _ _ (w.heap.size + 1) 45 _ (0, 0) _ rfl (heap_alloc2_new w _ _) Tryd.underlying45 rfl (by kernel_rfl)) rfl ?_
  exact ⟨rfl, ((Ext.refl w).alloc _).alloc _⟩

set_option maxRecDepth 100000 in
set_option maxHeartbeats 1000000 in
theorem awake15_calls (w : World) : Calls Tryd.prog 34 #[] w fun e w' => e = .returned (.bool true) ∧ Ext w w' := by
  go_enter Tryd.func34, Tryd.ntmps34
  go_wp2_with fail
  refine (recBytes_calls ⟨1, 0, 300, [97, 98]⟩ _ (by simp)).mono ?_; rintro e w1 ⟨rfl, e1⟩
  rw [show (if Rc.check ⟨1, 0, 300, [97, 98]⟩ = 0 then Rc.bytes ⟨1, 0, 300, [97, 98]⟩ else []) = [1, 1, 0, 2, 1, 44, 1, 2, 97, 98] from by decide, show Rc.check ⟨1, 0, 300, [97, 98]⟩ = 0 from by decide]
  have hx1 : Blk w1 w.heap.size 45 _ := Blk.below (Blk.new w _ _) e1 (by simp)
  have c0 : w1.cell? ⟨w.heap.size, 0, none⟩ = some (.int .i64 1) := Blk.cell hx1 0
  have c1 : w1.cell? ⟨w.heap.size, 1, none⟩ = some (.int .i64 0) := Blk.cell hx1 1
  have c2 : w1.cell? ⟨w.heap.size, 2, none⟩ = some (.int .i64 300) := Blk.cell hx1 2
  have c3 : w1.cell? ⟨w.heap.size, 3, none⟩ = some (.string (bs [97, 98])) := Blk.cell hx1 3
  go_wp2_with fail
  refine (recRow_calls (w1.heap.size + 1) (some ⟨w1.heap.size, 0, none⟩) 1 [⟨1, 0, 300, [97, 98]⟩] _ ?hrd (by simp) (by simp) (by simp) (by decide)).mono ?_
  case hrd =>
    intro _
    refine ⟨_, _, rfl, Nat.lt_succ_self _, fun j u hu => ?_⟩
    rw [Nat.zero_add, Blk.cell (Blk.new w1 _ _)]
    simpa [Rc.cells, bs, strV] using hu
  rintro e w2 ⟨rfl, e2⟩
  rw [show Rc.row [⟨1, 0, 300, [97, 98]⟩] = [2, 1, 44, 1, 2, 97, 98] from by decide]
  have hx2 : Blk w2 w.heap.size 45 _ := Blk.below (Blk.alloc hx1 _) e2 (by have := hx1.lt; simp; omega)
  have d0 : w2.cell? ⟨w.heap.size, 0, none⟩ = some (.int .i64 1) := Blk.cell hx2 0
  have d1 : w2.cell? ⟨w.heap.size, 1, none⟩ = some (.int .i64 0) := Blk.cell hx2 1
  have d2 : w2.cell? ⟨w.heap.size, 2, none⟩ = some (.int .i64 300) := Blk.cell hx2 2
  have d3 : w2.cell? ⟨w.heap.size, 3, none⟩ = some (.string (bs [97, 98])) := Blk.cell hx2 3
  go_wp2_with fail
  refine (recSize_calls ⟨1, 0, 300, [97, 98]⟩ _ (by simp)).mono ?_; rintro e w3 ⟨rfl, e3⟩
  rw [show (Rc.inRow ⟨1, 0, 300, [97, 98]⟩).length = 7 from by decide]
  go_wp2_with fail
  go_ret
  exact ⟨rfl, (((((Ext.refl w).alloc _).trans e1).alloc _).trans e2).trans e3⟩

end Go.Proofs.YtlcimlencoaiiaaDoor
