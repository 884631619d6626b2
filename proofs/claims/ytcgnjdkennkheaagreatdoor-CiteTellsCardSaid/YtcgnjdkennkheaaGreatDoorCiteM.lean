/-
  Slices of hashes for layer 19.
  The walks of cite's lists, both sides.
  Sameness of lists of hashes: the document (out of XLeaf5).
  The law's short of layer 19.
  The Cite as a value: its cells and where its fields lie.
  The walk of cite.Bytes.
  The walk of the document's Bytes of cites.
  The walks of cite.Same and of the document's Same.
  The walks of cite.Same and of the document's Same.
  Slice literals of hashes; the closure of cite.Read that reads a list of hashes.
  The document's hashes of a list (scriniumref19.sums).
  A cite in a block: what moves it, its fields set, a cite begun with a freeze.
  The walk of cite.Read.
  The walk of the document's Read of cites.
  The law's small: a cite with paths of 70 hashes at most.
  The chapter's examples of layer 19.
-/
import Derived.Test.YtcgnjdkennkheaaGreatDoorRecM
import Derived.Test.YtcgnjdkennkheaaGreatDoorRefPM
import Derived.Test.YtcgnjdkennkheaaGreatDoorSealVM
import Derived.Great.BuildSlice
set_option linter.unusedVariables false
set_option maxRecDepth 100000
set_option linter.unusedSimpArgs false
set_option linter.unusedSectionVars false
namespace Go.Proofs.YtcgnjdkennkheaaGreatDoor
open Go.ChangeShapes Go.WideShapes Go.ChangeAt Go.RowKit

/-! ### Slices of hashes -/
end Go.Proofs.YtcgnjdkennkheaaGreatDoor

namespace Go.Proofs.YtcgnjdkennkheaaGreatDoor
open Go.ChangeShapes Go.WideShapes Go.ChangeAt Go.RowKit
attribute [local go_sem] bs_size bs_toList2 bs_append bs_extract_end bs_extract_begin bs_get wrap64_b grow_cell grow_frozen

set_option maxHeartbeats 1000000 in
theorem citeList_calls (v : Value) (pk : List (List UInt8)) (hp : AllH pk) (hpl : pk.length ≤ 1000) (w : World) (h : SlS w w.heap.size v pk) :
    Calls Tryz.prog 35 #[v] w fun e w' => e = .returned (.string (bs (Oct.list pk))) ∧ Ext w w' := by
  obtain ⟨i0, hi, hz0, hz1, hz2⟩ := info_parts info_str
  obtain ⟨A, cap, rfl, hA, hc, hc63, hr⟩ := h
  go_enter Tryz.func35, Tryz.ntmps35
  go_wp2_with fail
  go_loopw [3, 8] (fun s3 s9 wr => ∃ k : Nat, k ≤ pk.length ∧ s9 = .int .i64 (k : Int) ∧ wr.ownsRow w.heap.size 9 1 s3 k ((pk.take k).map strV) ∧ Ext w wr) (fun _ s9 _ => pk.length - (intOf s9).toNat)
  case atStart => exact ⟨0, Nat.zero_le _, rfl, World.ownsRow_nil _ _ _ _, Ext.refl _⟩
  case round =>
    obtain ⟨wo, rfl⟩ : ∃ wo : World, wo = wr := ⟨_, rfl⟩
    obtain ⟨k, hk, rfl, hown, hE⟩ := hrel
    by_cases hlt : k < pk.length
    · have hlI : (k : Int) < (pk.length : Int) := by omega
      rcases hA with ⟨_, hl0, _⟩ | ⟨b, off, rfl⟩
      · rw [hl0] at hlt; simp at hlt
      obtain ⟨hbl, hm⟩ := rds_at (hr.below hE (Nat.le_refl _)) hp hlt
      have hq := hp.get k hlt
      go_wp2_with (refine stop_load 28 (.tmp 10) rfl ?_)
      refine ⟨?_⟩
      refine wpList_load_mid rfl 28 (.tmp 10) rfl b (off + k * 32) (by rfl) (hcells pk[k]) _ hm Tryz.underlying28 rfl (size32l _ hq) ?_
      simp only [Act.put, List.setIfInBounds_toArray, List.set_cons_zero, List.set_cons_succ]
      unfold hcells
      have HS := Lib.hid (List.take_succ_eq_append_getElem hlt)
      generalize pk[k] = q at *
      go_wp2_with (refine stop_store 28 (.tmp 5) (.tmp 11) rfl ?_)
      refine ⟨?_⟩
      change wpList _ _ _ _ _ (wo.alloc (.cells ((zerosB 32).map byteV).toArray 28))
      have hZ : ArrB (wo.alloc (.cells ((zerosB 32).map byteV).toArray 28)) wo.heap.size 28 (zerosB 32) := Blk.new _ _ _
      refine wpList_store_row rfl 28 (.tmp 5) (.tmp 11) rfl wo.heap.size _ (by rfl) (by rfl) 28 _ hZ (size32.trans (by simp [hq])) (by simp [hq, zerosB]) (by simp [byteV, Value.oneCell']) ?_
      simp only [Act.put, List.setIfInBounds_toArray, List.set_cons_zero, List.set_cons_succ]
      have hZ2 : ArrB ((wo.alloc (.cells ((zerosB 32).map byteV).toArray 28)).setRow wo.heap.size (q.map byteV).toArray) wo.heap.size 28 q := Blk.row hZ _
      have hX2 : Ext wo ((wo.alloc (.cells ((zerosB 32).map byteV).toArray 28)).setRow wo.heap.size (q.map byteV).toArray) := ((Ext.refl wo).alloc _).row (Nat.le_refl _) _
      have hown2 := owns_ext hown hX2
      have hE2 := hE.trans hX2
      clear hm hbl hZ hown hX2 hE
      generalize (wo.alloc (.cells ((zerosB 32).map byteV).toArray 28)).setRow wo.heap.size (q.map byteV).toArray = w2 at *
      go_wp2_with (refine stop_load 28 (.tmp 5) rfl ?_)
      refine ⟨?_⟩
      refine wpList_load_row rfl 28 (.tmp 5) rfl wo.heap.size (by rfl) 28 _ (0, 0) _ hZ2 Tryz.underlying28 rfl (size32.trans (by simp [hq])) ?_
      simp only [Act.put, List.setIfInBounds_toArray, List.set_cons_zero, List.set_cons_succ]
      go_wp2_with fail
      change Calls _ _ #[sumV q] _ _
      refine (Bytes_calls q hq _).mono ?_; rintro e w3 ⟨rfl, e3⟩
      have hown3 := owns_ext hown2 e3
      have hE3 := hE2.trans e3
      clear hown2 hE2 hZ2 e3
      go_wp2_with (at_builtin; refine wpList_append_own _ rfl _ _ 85 rfl w.heap.size 9 i0 (.string .empty) 1 16 Tryz.underlying85 hi hz0 hz1 hz2 rfl (by decide) _ _ _ rfl (hown3.alloc _) ⟨w3.heap.size, 0, none⟩ 1 1 [strV q] rfl rfl ?c1 ?c2 ?c3 ?c4 ?c5 ?_)
      case c1 =>
        intro j u hj
        match j, hj with
        | 0, hj => simp at hj; subst hj; simp [Addr.add, strV]
      case c2 => intro u hu; simp at hu; subst hu; rfl
      case c3 => unfold maxLen; omega
      case c4 => omega
      case c5 => have := hE3.size; simp; omega
      intro v' w4 hown' hgrow _
      have hE' : Ext w w4 := (hE3.alloc _).grown hgrow (by have := hE3.size; simp; omega) (fun g hg => (hown3.lt g hg).1)
      have hown4 : w4.ownsRow w.heap.size 9 1 v' (k + 1) ((pk.take (k + 1)).map strV) := by rw [HS.out, List.map_append, List.map_take]; exact hown'
      clear hgrow hown3 hown' hE3
      go_wp2_with fail
      go_roundw
      case rel => exact ⟨k + 1, by omega, by go_num, hown4, hE'⟩
      case measure => simp [intOf]; omega
    · obtain rfl : k = pk.length := by omega
      rw [List.take_length] at hown
      have hlen := hown.1
      obtain ⟨A2, c2, rfl⟩ := own_slice hown
      have hRd := Rd.of_own hown
      go_wp2_with fail
      have hll := Oct.list_length_le 32 pk (fun s hs => by
        obtain ⟨i, hi1, rfl⟩ := List.getElem_of_mem hs
        exact Nat.le_of_eq (hp.get i hi1))
      refine (List_calls _ A2 c2 pk _ (hRd.below (Ext.refl _) (Nat.le_refl _)) (Nat.le_refl _) (by omega)).mono ?_; rintro e w5 ⟨rfl, e5⟩
      go_wp2_with fail
      go_ret
      exact ⟨rfl, hE.trans e5⟩

end Go.Proofs.YtcgnjdkennkheaaGreatDoor

namespace Go.Proofs.YtcgnjdkennkheaaGreatDoor
open Go.RowKit
attribute [local go_sem] bs_size bs_toList2 bs_append bs_extract_end bs_extract_begin bs_get wrap64_b grow_cell grow_frozen

/-! ### Same -/
set_option maxHeartbeats 1000000 in
theorem Equal_calls (v v' : Value) (l m : List (List UInt8)) (hl : AllH l) (hm : AllH m) (w : World) (h : SlS w w.heap.size v l) (h' : SlS w w.heap.size v' m) :
    Calls Tryz.prog 89 #[v, v'] w fun e w' => e = .returned (.bool (decide (l = m))) ∧ Ext w w' := by
  obtain ⟨A, cap, rfl, hA0, hc, hc63, hr⟩ := h
  obtain ⟨A', cap', rfl, hA0', hc', hc63', hr'⟩ := h'
  obtain ⟨ok, hok⟩ : ∃ ok, ok = decide (l = m) := ⟨_, rfl⟩
  rw [← hok]
  have Hok := Lib.hid hok; clear hok
  by_cases hlen : l.length = m.length
  · have hb : ((l.length : Int) != (m.length : Int)) = false := by simp [hlen]
    have Hlen := Lib.hid hlen
    clear hlen
    go_enter Tryz.func89, Tryz.ntmps89
    go_wp2_with fail
    go_loopw [13] (fun s wr => ∃ k : Nat, k ≤ l.length ∧ s = .int .i64 (k : Int) ∧ l.take k = m.take k ∧ Ext w wr) (fun s _ => l.length - (intOf s).toNat)
    case atStart => exact ⟨0, by omega, rfl, by simp, Ext.refl _⟩
    case round =>
      obtain ⟨wo, rfl⟩ : ∃ wo : World, wo = wr := ⟨_, rfl⟩
      obtain ⟨k, hk, rfl, htk, hE⟩ := hrel
      have Htk := Lib.hid htk
      clear htk
      by_cases hlt : k < l.length
      · have hltm : k < m.length := by have := Hlen.out; omega
        have hit : (k : Int) < (l.length : Int) := by omega
        have hitm : (k : Int) < (m.length : Int) := by omega
        rcases hA0 with ⟨_, hl1, _⟩ | ⟨b, off, rfl⟩
        · rw [hl1] at hlt; simp at hlt
        rcases hA0' with ⟨_, hl1, _⟩ | ⟨b', off', rfl⟩
        · rw [hl1] at hltm; simp at hltm
        obtain ⟨hb1, hm1⟩ := rds_at (hr.below hE (Nat.le_refl _)) hl hlt
        obtain ⟨hb2, hm2⟩ := rds_at (hr'.below hE (Nat.le_refl _)) hm hltm
        have hbl1 : b < wo.heap.size := Nat.lt_of_lt_of_le hb1 hE.size
        have hbl2 : b' < wo.heap.size := Nat.lt_of_lt_of_le hb2 hE.size
        have hx := hl.get k hlt
        have hy := hm.get k hltm
        have hts := take_eq_succ l m k hlt hltm Htk.out
        have hne : l[k] ≠ m[k] → ok = false := fun hne => by
          rw [Hok.out, decide_eq_false_iff_not]
          rintro rfl
          exact hne rfl
        have Hts := Lib.hid hts; have Hne := Lib.hid hne
        clear hts hne
        have hgw := guard_sum
        have heq := fun w : World => eq_sum l[k] m[k] hx hy w
        by_cases hxy : l[k] = m[k]
        · have hd : decide (l[k] = m[k]) = true := by simp [hxy]
          have Hd := Lib.hid (Hts.out.2 hxy)
          clear hxy Hts Hne
          generalize l[k] = p at *
          generalize m[k] = q at *
          go_wp2_with fail
          refine region_mix0 (by kernel_rfl) (by kernel_rfl) (fun x => ?_)
          iterate 3 (first | (refine mix_quiet (by rfl) (by rfl) (fun K hK => ?_); go_big_quiet_op; refine hK _ ?_; clear hK K) | (refine mix_skip (by rfl) ?_; simp only [Act.put, List.setIfInBounds_toArray, List.set_cons_zero, List.set_cons_succ]))
          refine mix_mid (by rfl) (by rfl) 28 (.tmp 18) rfl b (off + k * 32) (by rfl) _ _ hm1 hbl1 Tryz.underlying28 rfl (size32l _ hx) ?_
          simp only [Act.put, List.setIfInBounds_toArray, List.set_cons_zero, List.set_cons_succ]
          iterate 3 (first | (refine mix_quiet (by rfl) (by rfl) (fun K hK => ?_); go_big_quiet_op; refine hK _ ?_; clear hK K) | (refine mix_skip (by rfl) ?_; simp only [Act.put, List.setIfInBounds_toArray, List.set_cons_zero, List.set_cons_succ]))
          refine mix_mid (by rfl) (by rfl) 28 (.tmp 22) rfl b' (off' + k * 32) (by rfl) _ _ hm2 hbl2 Tryz.underlying28 rfl (size32l _ hy) ?_
          simp only [Act.put, List.setIfInBounds_toArray, List.set_cons_zero, List.set_cons_succ]
          unfold hcells
          repeat (first | (refine mix_quiet (by rfl) (by rfl) (fun K hK => ?_); go_big_quiet_op; refine hK _ ?_; clear hK K) | (refine mix_skip (by rfl) ?_; simp only [Act.put, List.setIfInBounds_toArray, List.set_cons_zero, List.set_cons_succ]))
          refine mix_nil ?_
          go_wp2_with fail
          go_roundw
          case rel => exact ⟨k + 1, by omega, by go_num, Hd.out, hE.trans (grow_ext _)⟩
          case measure => simp [intOf]; omega
        · have hd : decide (l[k] = m[k]) = false := by simp [hxy]
          have hok := Hne.out hxy
          have Hk2 := Lib.hid hok
          clear hxy Hts Hne hok
          generalize l[k] = p at *
          generalize m[k] = q at *
          go_wp2_with fail
          refine region_mix0 (by kernel_rfl) (by kernel_rfl) (fun x => ?_)
          iterate 3 (first | (refine mix_quiet (by rfl) (by rfl) (fun K hK => ?_); go_big_quiet_op; refine hK _ ?_; clear hK K) | (refine mix_skip (by rfl) ?_; simp only [Act.put, List.setIfInBounds_toArray, List.set_cons_zero, List.set_cons_succ]))
          refine mix_mid (by rfl) (by rfl) 28 (.tmp 18) rfl b (off + k * 32) (by rfl) _ _ hm1 hbl1 Tryz.underlying28 rfl (size32l _ hx) ?_
          simp only [Act.put, List.setIfInBounds_toArray, List.set_cons_zero, List.set_cons_succ]
          iterate 3 (first | (refine mix_quiet (by rfl) (by rfl) (fun K hK => ?_); go_big_quiet_op; refine hK _ ?_; clear hK K) | (refine mix_skip (by rfl) ?_; simp only [Act.put, List.setIfInBounds_toArray, List.set_cons_zero, List.set_cons_succ]))
          refine mix_mid (by rfl) (by rfl) 28 (.tmp 22) rfl b' (off' + k * 32) (by rfl) _ _ hm2 hbl2 Tryz.underlying28 rfl (size32l _ hy) ?_
          simp only [Act.put, List.setIfInBounds_toArray, List.set_cons_zero, List.set_cons_succ]
          unfold hcells
          repeat (first | (refine mix_quiet (by rfl) (by rfl) (fun K hK => ?_); go_big_quiet_op; refine hK _ ?_; clear hK K) | (refine mix_skip (by rfl) ?_; simp only [Act.put, List.setIfInBounds_toArray, List.set_cons_zero, List.set_cons_succ]))
          refine mix_nil ?_
          go_wp2_with fail
          go_ret
          exact ⟨by rw [Hk2.out]; rfl, hE.trans (grow_ext _)⟩
      · obtain rfl : k = l.length := by omega
        have hlm : l = m := by
          have := Htk.out
          rwa [List.take_length, Hlen.out, List.take_length] at this
        have hok : ok = true := by rw [Hok.out]; simp [hlm]
        have Hk2 := Lib.hid hok
        clear hok hlm
        go_wp2_with fail
        go_ret
        exact ⟨by rw [Hk2.out]; rfl, hE⟩
  · have hb : ((l.length : Int) != (m.length : Int)) = true := by rw [bne_iff_ne]; omega
    have hok : ok = false := by
      rw [Hok.out, decide_eq_false_iff_not]
      rintro rfl
      exact hlen rfl
    have Hk2 := Lib.hid hok
    clear hok hlen
    go_enter Tryz.func89, Tryz.ntmps89
    go_wp2_with fail
    go_ret
    exact ⟨by rw [Hk2.out]; rfl, Ext.refl w⟩

theorem citeSame_calls (v v' : Value) (l m : List (List UInt8)) (hl : AllH l) (hm : AllH m) (w : World) (h : SlS w w.heap.size v l) (h' : SlS w w.heap.size v' m) :
    Calls Tryz.prog 49 #[v, v'] w fun e w' => e = .returned (.bool (decide (l = m))) ∧ Ext w w' := by
  go_enter Tryz.func49, Tryz.ntmps49
  go_wp2_with fail
  refine (Equal_calls v v' l m hl hm w h h').mono ?_; rintro e w1 ⟨rfl, e1⟩
  go_wp2_with fail
  go_ret
  exact ⟨rfl, e1⟩

end Go.Proofs.YtcgnjdkennkheaaGreatDoor

namespace Go.Proofs.YtcgnjdkennkheaaGreatDoor
open Go.RowKit
attribute [local go_sem] bs_size bs_toList2 bs_append bs_extract_end bs_extract_begin bs_get wrap64_b grow_cell grow_frozen

theorem short19_calls (s : List UInt8) (n : Nat) (w : World) (hs : s.length ≤ 9223372036854775807) (hn : n ≤ 9223372036854775807) : Calls Tryz.prog 9 #[.string (bs s), .int .i64 (n : Int)] w fun e w' => e = .returned (.string (bs (s.take n))) ∧ w = w' := by
  by_cases h : n < s.length
  · have h1 : (n : Int) < (s.length : Int) := by omega
    go_enter Tryz.func9, Tryz.ntmps9
    go_wp2
    go_ret
    exact ⟨rfl, rfl⟩
  · have h1 : ¬ (n : Int) < (s.length : Int) := by omega
    have ht : s.take n = s := List.take_of_length_le (by omega)
    have HT := Lib.hid ht; clear ht
    go_enter Tryz.func9, Tryz.ntmps9
    go_wp2
    go_ret
    exact ⟨by rw [HT.out]; rfl, rfl⟩

end Go.Proofs.YtcgnjdkennkheaaGreatDoor

namespace Go.Proofs.YtcgnjdkennkheaaGreatDoor
open Go.RowKit
open Seal (Fz Hd St)

/-- The cells of a cite: two slice values p and q for its lists. -/
def citeC (f : Fz) (p : Value) (pl : Int) (q : Value) (h : Hd) : List Value := f.cells ++ (p :: .int .i64 pl :: q :: h.cells)
def citeV (f : Fz) (p : Value) (pl : Int) (q : Value) (h : Hd) : Value := .agg (citeC f p pl q h).toArray
def CiteAt (w : World) (g : Nat) (f : Fz) (p : Value) (pl : Int) (q : Value) (h : Hd) : Prop := Blk w g 34 (citeC f p pl q h).toArray

variable {w : World} {g : Nat} {f : Fz} {p q : Value} {pl : Int} {h : Hd}
theorem fz_cells (hr : f.root.length = 32) : f.cells.length = 34 := by simp [Fz.cells, hcells, hr]
theorem CiteAt.fz (k : CiteAt w g f p pl q h) : w.rangeAt g 0 f.cells := Blk.range (pre := []) (mid := f.cells) (post := p :: .int .i64 pl :: q :: h.cells) k 0 rfl
theorem CiteAt.path (k : CiteAt w g f p pl q h) (hr : f.root.length = 32) : w.rangeAt g 34 [p] := Blk.range (pre := f.cells) (mid := [p]) (post := .int .i64 pl :: q :: h.cells) k 34 (fz_cells hr).symm
theorem CiteAt.place (k : CiteAt w g f p pl q h) (hr : f.root.length = 32) : w.rangeAt g 35 [.int .i64 pl] := Blk.range (pre := f.cells ++ [p]) (mid := [.int .i64 pl]) (post := q :: h.cells) (by simpa [CiteAt, citeC] using k) 35 (by simp [fz_cells hr])
theorem CiteAt.super (k : CiteAt w g f p pl q h) (hr : f.root.length = 32) : w.rangeAt g 36 [q] := Blk.range (pre := f.cells ++ [p, .int .i64 pl]) (mid := [q]) (post := h.cells) (by simpa [CiteAt, citeC] using k) 36 (by simp [fz_cells hr])
theorem CiteAt.head (k : CiteAt w g f p pl q h) (hr : f.root.length = 32) : w.rangeAt g 37 h.cells := Blk.range (pre := f.cells ++ [p, .int .i64 pl, q]) (mid := h.cells) (post := []) (by simpa [CiteAt, citeC] using k) 37 (by simp [fz_cells hr])
theorem CiteAt.ext {w' : World} (k : CiteAt w g f p pl q h) (e : Ext w w') : CiteAt w' g f p pl q h := Blk.below k e (Blk.lt k)

end Go.Proofs.YtcgnjdkennkheaaGreatDoor

namespace Go.Proofs.YtcgnjdkennkheaaGreatDoor
open Go.RowKit
open Seal (Fz Hd St Ct)
attribute [local go_sem] bs_size bs_toList2 bs_append bs_extract_end bs_extract_begin bs_get wrap64_b grow_cell grow_frozen

namespace Seal.Ct
def outB (c : Ct) : List UInt8 := if c.may then c.bytes else []
def outE (c : Ct) : Int := if c.may then 0 else 1
theorem outB_ok (c : Ct) (h : c.may) : c.outB = c.bytes := if_pos h
theorem outB_no (c : Ct) (h : ¬ c.may) : c.outB = [] := if_neg h
theorem outE_ok (c : Ct) (h : c.may) : c.outE = 0 := if_pos h
theorem outE_no (c : Ct) (h : ¬ c.may) : c.outE = 1 := if_neg h
end Seal.Ct

set_option maxHeartbeats 4000000 in
theorem citeBytes_no (c : Ct) (hc : c.ok) (h1 : ¬ c.fz.may) (p q : Value) (w : World) (hp : SlS w w.heap.size p c.path) (hq : SlS w w.heap.size q c.super) :
    Calls Tryz.prog 12 #[citeV c.fz p c.place q c.hd] w fun e w' => e = .returned (.tuple #[.string (bs []), .int .i64 1]) ∧ Ext w w' := by
  have hB0 : CiteAt (w.alloc (.cells (citeC c.fz p c.place q c.hd).toArray 34)) w.heap.size c.fz p c.place q c.hd := Blk.new w 34 _
  have hE0 : Ext w (w.alloc (.cells (citeC c.fz p c.place q c.hd).toArray 34)) := (Ext.refl w).alloc _
  obtain ⟨r1, r2, r3, r4, r5⟩ := hc
  have hp' := hp
  have hq' := hq
  unfold citeV
  go_enter Tryz.func12, Tryz.ntmps12
  go_wp2_with (refine stop_load 30 (.tmp 9) rfl ?_)
  refine ⟨?_⟩
  change wpList _ _ _ _ _ (w.alloc (.cells (citeC c.fz p c.place q c.hd).toArray 34))
  generalize (w.alloc (.cells (citeC c.fz p c.place q c.hd).toArray 34)) = w0 at *
  have hfzr := hB0.fz
  refine wpList_load_mid rfl 30 (.tmp 9) rfl w.heap.size 0 (by rfl) (c.fz.cells) _ hfzr Tryz.underlying30 rfl ((Seal.size_fz c.fz r1).trans (by rw [List.size_toArray])) ?_
  simp only [Act.put, List.setIfInBounds_toArray, List.set_cons_zero, List.set_cons_succ]
  go_wp2_with fail
  change Calls _ _ #[c.fz.v] _ _
  obtain ⟨hoB, hoE⟩ := Seal.Fz.out_no c.fz h1
  refine (FreezeBytes_calls c.fz r1 _).mono ?_; rintro e w1 ⟨rfl, e1⟩
  have hB1 := hB0.ext e1
  have hE1 := hE0.trans e1
  have hhdr := hB1.head r1
  rw [hoB, hoE]
  go_wp2_with (refine stop_load 32 (.tmp 15) rfl ?_)
  refine ⟨?_⟩
  refine wpList_load_mid rfl 32 (.tmp 15) rfl w.heap.size 37 (by rfl) (c.hd.cells) _ hhdr Tryz.underlying32 rfl ((Seal.size_hd c.hd r2 r3).trans (by rw [List.size_toArray])) ?_
  simp only [Act.put, List.setIfInBounds_toArray, List.set_cons_zero, List.set_cons_succ]
  go_wp2_with fail
  change Calls _ _ #[c.hd.v] _ _
  refine (HeadBytes_calls c.hd r2 r3 _).mono ?_; rintro e w2 ⟨rfl, e2⟩
  have hE2 := hE1.trans e2
  have hB2 := hB1.ext e2
  have hp2 := hp'.ext hE2
  have hq2 := hq'.ext hE2
  have hpl := hB2.place r1 0 _ rfl
  have hpa := hB2.path r1 0 _ rfl
  have hsu := hB2.super r1 0 _ rfl
  clear hp' hq' hp hq hhdr hfzr hB0 hB1 hE0 hE1 e1 e2
  clear hB2
  obtain ⟨A, ca, rfl, hA, hca, hca63, hra⟩ := hp2
  obtain ⟨B, cb, rfl, hB, hcb, hcb63, hrb⟩ := hq2
  clear hra hrb hA hB
  go_wp2_with fail
  go_ret2
  exact ⟨rfl, hE2⟩

set_option maxHeartbeats 4000000 in
theorem citeBytes_hd (c : Ct) (hc : c.ok) (h1 : c.fz.may) (h2 : ¬ c.hd.may) (p q : Value) (w : World) (hp : SlS w w.heap.size p c.path) (hq : SlS w w.heap.size q c.super) :
    Calls Tryz.prog 12 #[citeV c.fz p c.place q c.hd] w fun e w' => e = .returned (.tuple #[.string (bs []), .int .i64 1]) ∧ Ext w w' := by
  have hB0 : CiteAt (w.alloc (.cells (citeC c.fz p c.place q c.hd).toArray 34)) w.heap.size c.fz p c.place q c.hd := Blk.new w 34 _
  have hE0 : Ext w (w.alloc (.cells (citeC c.fz p c.place q c.hd).toArray 34)) := (Ext.refl w).alloc _
  obtain ⟨r1, r2, r3, r4, r5⟩ := hc
  have hp' := hp
  have hq' := hq
  unfold citeV
  go_enter Tryz.func12, Tryz.ntmps12
  go_wp2_with (refine stop_load 30 (.tmp 9) rfl ?_)
  refine ⟨?_⟩
  change wpList _ _ _ _ _ (w.alloc (.cells (citeC c.fz p c.place q c.hd).toArray 34))
  generalize (w.alloc (.cells (citeC c.fz p c.place q c.hd).toArray 34)) = w0 at *
  have hfzr := hB0.fz
  refine wpList_load_mid rfl 30 (.tmp 9) rfl w.heap.size 0 (by rfl) (c.fz.cells) _ hfzr Tryz.underlying30 rfl ((Seal.size_fz c.fz r1).trans (by rw [List.size_toArray])) ?_
  simp only [Act.put, List.setIfInBounds_toArray, List.set_cons_zero, List.set_cons_succ]
  go_wp2_with fail
  change Calls _ _ #[c.fz.v] _ _
  obtain ⟨hoB, hoE⟩ := Seal.Fz.out_ok c.fz h1
  refine (FreezeBytes_calls c.fz r1 _).mono ?_; rintro e w1 ⟨rfl, e1⟩
  have hB1 := hB0.ext e1
  have hE1 := hE0.trans e1
  have hhdr := hB1.head r1
  rw [hoB, hoE]
  go_wp2_with (refine stop_load 32 (.tmp 15) rfl ?_)
  refine ⟨?_⟩
  refine wpList_load_mid rfl 32 (.tmp 15) rfl w.heap.size 37 (by rfl) (c.hd.cells) _ hhdr Tryz.underlying32 rfl ((Seal.size_hd c.hd r2 r3).trans (by rw [List.size_toArray])) ?_
  simp only [Act.put, List.setIfInBounds_toArray, List.set_cons_zero, List.set_cons_succ]
  go_wp2_with fail
  change Calls _ _ #[c.hd.v] _ _
  obtain ⟨-, hdB, hdE⟩ := Seal.Hd.out_no c.hd h2
  refine (HeadBytes_calls c.hd r2 r3 _).mono ?_; rw [hdB, hdE]; rintro e w2 ⟨rfl, e2⟩
  have hE2 := hE1.trans e2
  have hB2 := hB1.ext e2
  have hp2 := hp'.ext hE2
  have hq2 := hq'.ext hE2
  have hpl := hB2.place r1 0 _ rfl
  have hpa := hB2.path r1 0 _ rfl
  have hsu := hB2.super r1 0 _ rfl
  clear hp' hq' hp hq hhdr hfzr hB0 hB1 hE0 hE1 e1 e2
  clear hB2
  obtain ⟨A, ca, rfl, hA, hca, hca63, hra⟩ := hp2
  obtain ⟨B, cb, rfl, hB, hcb, hcb63, hrb⟩ := hq2
  clear hra hrb hA hB
  go_wp2_with fail
  go_ret2
  exact ⟨rfl, hE2⟩

set_option maxHeartbeats 4000000 in
theorem citeBytes_low (c : Ct) (hc : c.ok) (h1 : c.fz.may) (h2 : c.hd.may) (h3 : c.place < 0) (p q : Value) (w : World) (hp : SlS w w.heap.size p c.path) (hq : SlS w w.heap.size q c.super) :
    Calls Tryz.prog 12 #[citeV c.fz p c.place q c.hd] w fun e w' => e = .returned (.tuple #[.string (bs []), .int .i64 1]) ∧ Ext w w' := by
  have hB0 : CiteAt (w.alloc (.cells (citeC c.fz p c.place q c.hd).toArray 34)) w.heap.size c.fz p c.place q c.hd := Blk.new w 34 _
  have hE0 : Ext w (w.alloc (.cells (citeC c.fz p c.place q c.hd).toArray 34)) := (Ext.refl w).alloc _
  obtain ⟨r1, r2, r3, r4, r5⟩ := hc
  have hp' := hp
  have hq' := hq
  unfold citeV
  go_enter Tryz.func12, Tryz.ntmps12
  go_wp2_with (refine stop_load 30 (.tmp 9) rfl ?_)
  refine ⟨?_⟩
  change wpList _ _ _ _ _ (w.alloc (.cells (citeC c.fz p c.place q c.hd).toArray 34))
  generalize (w.alloc (.cells (citeC c.fz p c.place q c.hd).toArray 34)) = w0 at *
  have hfzr := hB0.fz
  refine wpList_load_mid rfl 30 (.tmp 9) rfl w.heap.size 0 (by rfl) (c.fz.cells) _ hfzr Tryz.underlying30 rfl ((Seal.size_fz c.fz r1).trans (by rw [List.size_toArray])) ?_
  simp only [Act.put, List.setIfInBounds_toArray, List.set_cons_zero, List.set_cons_succ]
  go_wp2_with fail
  change Calls _ _ #[c.fz.v] _ _
  obtain ⟨hoB, hoE⟩ := Seal.Fz.out_ok c.fz h1
  refine (FreezeBytes_calls c.fz r1 _).mono ?_; rintro e w1 ⟨rfl, e1⟩
  have hB1 := hB0.ext e1
  have hE1 := hE0.trans e1
  have hhdr := hB1.head r1
  rw [hoB, hoE]
  go_wp2_with (refine stop_load 32 (.tmp 15) rfl ?_)
  refine ⟨?_⟩
  refine wpList_load_mid rfl 32 (.tmp 15) rfl w.heap.size 37 (by rfl) (c.hd.cells) _ hhdr Tryz.underlying32 rfl ((Seal.size_hd c.hd r2 r3).trans (by rw [List.size_toArray])) ?_
  simp only [Act.put, List.setIfInBounds_toArray, List.set_cons_zero, List.set_cons_succ]
  go_wp2_with fail
  change Calls _ _ #[c.hd.v] _ _
  obtain ⟨-, hdB, hdE⟩ := Seal.Hd.out_ok c.hd h2
  refine (HeadBytes_calls c.hd r2 r3 _).mono ?_; rw [hdB, hdE]; rintro e w2 ⟨rfl, e2⟩
  have hE2 := hE1.trans e2
  have hB2 := hB1.ext e2
  have hp2 := hp'.ext hE2
  have hq2 := hq'.ext hE2
  have hpl := hB2.place r1 0 _ rfl
  have hpa := hB2.path r1 0 _ rfl
  have hsu := hB2.super r1 0 _ rfl
  clear hp' hq' hp hq hhdr hfzr hB0 hB1 hE0 hE1 e1 e2
  clear hB2
  obtain ⟨A, ca, rfl, hA, hca, hca63, hra⟩ := hp2
  obtain ⟨B, cb, rfl, hB, hcb, hcb63, hrb⟩ := hq2
  clear hra hrb hA hB
  go_wp2_with fail
  go_ret2
  exact ⟨rfl, hE2⟩

set_option maxHeartbeats 4000000 in
theorem citeBytes_high (c : Ct) (hc : c.ok) (h1 : c.fz.may) (h2 : c.hd.may) (h3 : ¬ c.place < 0) (h4 : 1099511627776 < c.place) (p q : Value) (w : World) (hp : SlS w w.heap.size p c.path) (hq : SlS w w.heap.size q c.super) :
    Calls Tryz.prog 12 #[citeV c.fz p c.place q c.hd] w fun e w' => e = .returned (.tuple #[.string (bs []), .int .i64 1]) ∧ Ext w w' := by
  have hB0 : CiteAt (w.alloc (.cells (citeC c.fz p c.place q c.hd).toArray 34)) w.heap.size c.fz p c.place q c.hd := Blk.new w 34 _
  have hE0 : Ext w (w.alloc (.cells (citeC c.fz p c.place q c.hd).toArray 34)) := (Ext.refl w).alloc _
  obtain ⟨r1, r2, r3, r4, r5⟩ := hc
  have hp' := hp
  have hq' := hq
  unfold citeV
  go_enter Tryz.func12, Tryz.ntmps12
  go_wp2_with (refine stop_load 30 (.tmp 9) rfl ?_)
  refine ⟨?_⟩
  change wpList _ _ _ _ _ (w.alloc (.cells (citeC c.fz p c.place q c.hd).toArray 34))
  generalize (w.alloc (.cells (citeC c.fz p c.place q c.hd).toArray 34)) = w0 at *
  have hfzr := hB0.fz
  refine wpList_load_mid rfl 30 (.tmp 9) rfl w.heap.size 0 (by rfl) (c.fz.cells) _ hfzr Tryz.underlying30 rfl ((Seal.size_fz c.fz r1).trans (by rw [List.size_toArray])) ?_
  simp only [Act.put, List.setIfInBounds_toArray, List.set_cons_zero, List.set_cons_succ]
  go_wp2_with fail
  change Calls _ _ #[c.fz.v] _ _
  obtain ⟨hoB, hoE⟩ := Seal.Fz.out_ok c.fz h1
  refine (FreezeBytes_calls c.fz r1 _).mono ?_; rintro e w1 ⟨rfl, e1⟩
  have hB1 := hB0.ext e1
  have hE1 := hE0.trans e1
  have hhdr := hB1.head r1
  rw [hoB, hoE]
  go_wp2_with (refine stop_load 32 (.tmp 15) rfl ?_)
  refine ⟨?_⟩
  refine wpList_load_mid rfl 32 (.tmp 15) rfl w.heap.size 37 (by rfl) (c.hd.cells) _ hhdr Tryz.underlying32 rfl ((Seal.size_hd c.hd r2 r3).trans (by rw [List.size_toArray])) ?_
  simp only [Act.put, List.setIfInBounds_toArray, List.set_cons_zero, List.set_cons_succ]
  go_wp2_with fail
  change Calls _ _ #[c.hd.v] _ _
  obtain ⟨-, hdB, hdE⟩ := Seal.Hd.out_ok c.hd h2
  refine (HeadBytes_calls c.hd r2 r3 _).mono ?_; rw [hdB, hdE]; rintro e w2 ⟨rfl, e2⟩
  have hE2 := hE1.trans e2
  have hB2 := hB1.ext e2
  have hp2 := hp'.ext hE2
  have hq2 := hq'.ext hE2
  have hpl := hB2.place r1 0 _ rfl
  have hpa := hB2.path r1 0 _ rfl
  have hsu := hB2.super r1 0 _ rfl
  clear hp' hq' hp hq hhdr hfzr hB0 hB1 hE0 hE1 e1 e2
  clear hB2
  obtain ⟨A, ca, rfl, hA, hca, hca63, hra⟩ := hp2
  obtain ⟨B, cb, rfl, hB, hcb, hcb63, hrb⟩ := hq2
  clear hra hrb hA hB
  go_wp2_with fail
  go_ret2
  exact ⟨rfl, hE2⟩

set_option maxHeartbeats 4000000 in
theorem citeBytes_long (c : Ct) (hc : c.ok) (h1 : c.fz.may) (h2 : c.hd.may) (h3 : ¬ c.place < 0) (h4 : ¬ 1099511627776 < c.place) (h5 : 64 < max c.path.length c.super.length) (p q : Value) (w : World) (hp : SlS w w.heap.size p c.path) (hq : SlS w w.heap.size q c.super) :
    Calls Tryz.prog 12 #[citeV c.fz p c.place q c.hd] w fun e w' => e = .returned (.tuple #[.string (bs []), .int .i64 1]) ∧ Ext w w' := by
  have hB0 : CiteAt (w.alloc (.cells (citeC c.fz p c.place q c.hd).toArray 34)) w.heap.size c.fz p c.place q c.hd := Blk.new w 34 _
  have hE0 : Ext w (w.alloc (.cells (citeC c.fz p c.place q c.hd).toArray 34)) := (Ext.refl w).alloc _
  obtain ⟨r1, r2, r3, r4, r5⟩ := hc
  have hp' := hp
  have hq' := hq
  have h6 : (64 : Int) < max (c.path.length : Int) (c.super.length : Int) := by omega
  unfold citeV
  go_enter Tryz.func12, Tryz.ntmps12
  go_wp2_with (refine stop_load 30 (.tmp 9) rfl ?_)
  refine ⟨?_⟩
  change wpList _ _ _ _ _ (w.alloc (.cells (citeC c.fz p c.place q c.hd).toArray 34))
  generalize (w.alloc (.cells (citeC c.fz p c.place q c.hd).toArray 34)) = w0 at *
  have hfzr := hB0.fz
  refine wpList_load_mid rfl 30 (.tmp 9) rfl w.heap.size 0 (by rfl) (c.fz.cells) _ hfzr Tryz.underlying30 rfl ((Seal.size_fz c.fz r1).trans (by rw [List.size_toArray])) ?_
  simp only [Act.put, List.setIfInBounds_toArray, List.set_cons_zero, List.set_cons_succ]
  go_wp2_with fail
  change Calls _ _ #[c.fz.v] _ _
  obtain ⟨hoB, hoE⟩ := Seal.Fz.out_ok c.fz h1
  refine (FreezeBytes_calls c.fz r1 _).mono ?_; rintro e w1 ⟨rfl, e1⟩
  have hB1 := hB0.ext e1
  have hE1 := hE0.trans e1
  have hhdr := hB1.head r1
  rw [hoB, hoE]
  go_wp2_with (refine stop_load 32 (.tmp 15) rfl ?_)
  refine ⟨?_⟩
  refine wpList_load_mid rfl 32 (.tmp 15) rfl w.heap.size 37 (by rfl) (c.hd.cells) _ hhdr Tryz.underlying32 rfl ((Seal.size_hd c.hd r2 r3).trans (by rw [List.size_toArray])) ?_
  simp only [Act.put, List.setIfInBounds_toArray, List.set_cons_zero, List.set_cons_succ]
  go_wp2_with fail
  change Calls _ _ #[c.hd.v] _ _
  obtain ⟨-, hdB, hdE⟩ := Seal.Hd.out_ok c.hd h2
  refine (HeadBytes_calls c.hd r2 r3 _).mono ?_; rw [hdB, hdE]; rintro e w2 ⟨rfl, e2⟩
  have hE2 := hE1.trans e2
  have hB2 := hB1.ext e2
  have hp2 := hp'.ext hE2
  have hq2 := hq'.ext hE2
  have hpl := hB2.place r1 0 _ rfl
  have hpa := hB2.path r1 0 _ rfl
  have hsu := hB2.super r1 0 _ rfl
  clear hp' hq' hp hq hhdr hfzr hB0 hB1 hE0 hE1 e1 e2
  clear hB2
  obtain ⟨A, ca, rfl, hA, hca, hca63, hra⟩ := hp2
  obtain ⟨B, cb, rfl, hB, hcb, hcb63, hrb⟩ := hq2
  clear hra hrb hA hB
  go_wp2_with fail
  go_ret2
  exact ⟨rfl, hE2⟩

set_option maxHeartbeats 4000000 in
theorem citeBytes_ok (c : Ct) (hc : c.ok) (h1 : c.fz.may) (h2 : c.hd.may) (h3 : ¬ c.place < 0) (h4 : ¬ 1099511627776 < c.place) (h5 : c.path.length ≤ 64) (h5' : c.super.length ≤ 64) (p q : Value) (w : World) (hp : SlS w w.heap.size p c.path) (hq : SlS w w.heap.size q c.super) :
    Calls Tryz.prog 12 #[citeV c.fz p c.place q c.hd] w fun e w' => e = .returned (.tuple #[.string (bs c.bytes), .int .i64 0]) ∧ Ext w w' := by
  have hB0 : CiteAt (w.alloc (.cells (citeC c.fz p c.place q c.hd).toArray 34)) w.heap.size c.fz p c.place q c.hd := Blk.new w 34 _
  have hE0 : Ext w (w.alloc (.cells (citeC c.fz p c.place q c.hd).toArray 34)) := (Ext.refl w).alloc _
  obtain ⟨r1, r2, r3, r4, r5⟩ := hc
  have hp' := hp
  have hq' := hq
  have hw := u64_wrapS c.place
  have hu := Seal.u64_lt c.place
  have l1 := Seal.text_le c.fz.bytes
  have l2 := Oct.list_length_le 32 c.path (fun s hs => Nat.le_of_eq (r4 s hs))
  have l3 := Seal.put_le (Seal.u64 c.place)
  have l4 := Oct.list_length_le 32 c.super (fun s hs => Nat.le_of_eq (r5 s hs))
  have l5 := Seal.text_le c.hd.bytes
  have l6 := Seal.Fz.bytes_length c.fz r1
  have l7 := Seal.Ct.hd_length c.hd r2 r3
  have hj : c.bytes = Oct.text c.fz.bytes ++ (Oct.list c.path ++ (Oct.put (Seal.u64 c.place) ++ (Oct.list c.super ++ Oct.text c.hd.bytes))) := rfl
  rw [hj]
  clear hj
  have h6 : ¬ (64 : Int) < max (c.path.length : Int) (c.super.length : Int) := by omega
  unfold citeV
  go_enter Tryz.func12, Tryz.ntmps12
  go_wp2_with (refine stop_load 30 (.tmp 9) rfl ?_)
  refine ⟨?_⟩
  change wpList _ _ _ _ _ (w.alloc (.cells (citeC c.fz p c.place q c.hd).toArray 34))
  generalize (w.alloc (.cells (citeC c.fz p c.place q c.hd).toArray 34)) = w0 at *
  have hfzr := hB0.fz
  refine wpList_load_mid rfl 30 (.tmp 9) rfl w.heap.size 0 (by rfl) (c.fz.cells) _ hfzr Tryz.underlying30 rfl ((Seal.size_fz c.fz r1).trans (by rw [List.size_toArray])) ?_
  simp only [Act.put, List.setIfInBounds_toArray, List.set_cons_zero, List.set_cons_succ]
  go_wp2_with fail
  change Calls _ _ #[c.fz.v] _ _
  obtain ⟨hoB, hoE⟩ := Seal.Fz.out_ok c.fz h1
  refine (FreezeBytes_calls c.fz r1 _).mono ?_; rintro e w1 ⟨rfl, e1⟩
  have hB1 := hB0.ext e1
  have hE1 := hE0.trans e1
  have hhdr := hB1.head r1
  rw [hoB, hoE]
  go_wp2_with (refine stop_load 32 (.tmp 15) rfl ?_)
  refine ⟨?_⟩
  refine wpList_load_mid rfl 32 (.tmp 15) rfl w.heap.size 37 (by rfl) (c.hd.cells) _ hhdr Tryz.underlying32 rfl ((Seal.size_hd c.hd r2 r3).trans (by rw [List.size_toArray])) ?_
  simp only [Act.put, List.setIfInBounds_toArray, List.set_cons_zero, List.set_cons_succ]
  go_wp2_with fail
  change Calls _ _ #[c.hd.v] _ _
  obtain ⟨-, hdB, hdE⟩ := Seal.Hd.out_ok c.hd h2
  refine (HeadBytes_calls c.hd r2 r3 _).mono ?_; rw [hdB, hdE]; rintro e w2 ⟨rfl, e2⟩
  have hE2 := hE1.trans e2
  have hB2 := hB1.ext e2
  have hp2 := hp'.ext hE2
  have hq2 := hq'.ext hE2
  have hpl := hB2.place r1 0 _ rfl
  have hpa := hB2.path r1 0 _ rfl
  have hsu := hB2.super r1 0 _ rfl
  clear hp' hq' hp hq hhdr hfzr hB0 hB1 hE0 hE1 e1 e2
  have hlt := Blk.lt hB2
  clear hB2
  obtain ⟨A, ca, hpv, hA, hca, hca63, hra⟩ := id hp2
  obtain ⟨B, cb, hqv, hB, hcb, hcb63, hrb⟩ := id hq2
  clear hra hrb hA hB
  subst hpv hqv
  have hpx : ∀ x : More w2, SlS (grow w2 x) (grow w2 x).heap.size (.slice A c.path.length ca) c.path := fun x => hp2.ext (grow_ext x)
  have hqx : ∀ x : More w2, SlS (grow w2 x) (grow w2 x).heap.size (.slice B c.super.length cb) c.super := fun x => hq2.ext (grow_ext x)
  clear hp2 hq2
  go_wp2_with fail
  have a1 : ¬ (9223372036854775807 < (Oct.text c.fz.bytes).length + (Oct.list c.path).length) := by omega
  have a2 : ¬ (9223372036854775807 < (Oct.text c.fz.bytes).length + (Oct.list c.path).length + (Oct.put (Seal.u64 c.place)).length) := by omega
  have a3 : ¬ (9223372036854775807 < (Oct.text c.fz.bytes).length + (Oct.list c.path).length + (Oct.put (Seal.u64 c.place)).length + (Oct.list c.super).length) := by omega
  have a4 : ¬ (9223372036854775807 < (Oct.text c.fz.bytes).length + (Oct.list c.path).length + (Oct.put (Seal.u64 c.place)).length + (Oct.list c.super).length + (Oct.text c.hd.bytes).length) := by omega
  have b2 : ¬ (9223372036854775807 < (Oct.text c.fz.bytes ++ Oct.list c.path).length + (Oct.put (Seal.u64 c.place)).length) := by simp; omega
  have b3 : ¬ (9223372036854775807 < ((Oct.text c.fz.bytes ++ Oct.list c.path) ++ Oct.put (Seal.u64 c.place)).length + (Oct.list c.super).length) := by simp; omega
  have b4 : ¬ (9223372036854775807 < (((Oct.text c.fz.bytes ++ Oct.list c.path) ++ Oct.put (Seal.u64 c.place)) ++ Oct.list c.super).length + (Oct.text c.hd.bytes).length) := by simp; omega
  refine region_mix0 (by kernel_rfl) (by kernel_rfl) (fun x => ?_)
  repeat (first | (refine mix_quiet (by rfl) (by rfl) (fun K hK => ?_); go_big_quiet_op; refine hK _ ?_; clear hK K) | (refine mix_skip (by rfl) ?_; simp only [Act.put, List.setIfInBounds_toArray, List.set_cons_zero, List.set_cons_succ]))
  (refine mix_loud (by rfl) (by rfl) (fun K E hK => ?_); go_big_op)
  refine (Text_calls c.fz.bytes _ (by omega)).mono ?_; rintro e w3 ⟨rfl, hd⟩
  obtain ⟨x1, rfl⟩ := more_ext x hd
  refine hK _ _ ⟨_, rfl⟩ ?_; clear hK K E hd
  repeat (first | (refine mix_quiet (by rfl) (by rfl) (fun K hK => ?_); go_big_quiet_op; refine hK _ ?_; clear hK K) | (refine mix_skip (by rfl) ?_; simp only [Act.put, List.setIfInBounds_toArray, List.set_cons_zero, List.set_cons_succ]))
  (refine mix_loud (by rfl) (by rfl) (fun K E hK => ?_); go_big_op)
  refine (citeList_calls _ c.path r4 (by omega) _ (hpx _)).mono ?_; rintro e w3 ⟨rfl, hd⟩
  obtain ⟨x2, rfl⟩ := more_ext x1 hd
  refine hK _ _ ⟨_, rfl⟩ ?_; clear hK K E hd
  repeat (first | (refine mix_quiet (by rfl) (by rfl) (fun K hK => ?_); go_big_quiet_op; refine hK _ ?_; clear hK K) | (refine mix_skip (by rfl) ?_; simp only [Act.put, List.setIfInBounds_toArray, List.set_cons_zero, List.set_cons_succ]))
  (refine mix_loud (by rfl) (by rfl) (fun K E hK => ?_); go_big_op)
  refine (Put_calls (Seal.u64 c.place) _ (by omega) (by omega)).mono ?_; rw [Int.toNat_natCast]; rintro e w3 ⟨rfl, hd⟩
  obtain ⟨x3, rfl⟩ := more_ext x2 hd
  refine hK _ _ ⟨_, rfl⟩ ?_; clear hK K E hd
  repeat (first | (refine mix_quiet (by rfl) (by rfl) (fun K hK => ?_); go_big_quiet_op; refine hK _ ?_; clear hK K) | (refine mix_skip (by rfl) ?_; simp only [Act.put, List.setIfInBounds_toArray, List.set_cons_zero, List.set_cons_succ]))
  (refine mix_loud (by rfl) (by rfl) (fun K E hK => ?_); go_big_op)
  refine (citeList_calls _ c.super r5 (by omega) _ (hqx _)).mono ?_; rintro e w3 ⟨rfl, hd⟩
  obtain ⟨x4, rfl⟩ := more_ext x3 hd
  refine hK _ _ ⟨_, rfl⟩ ?_; clear hK K E hd
  repeat (first | (refine mix_quiet (by rfl) (by rfl) (fun K hK => ?_); go_big_quiet_op; refine hK _ ?_; clear hK K) | (refine mix_skip (by rfl) ?_; simp only [Act.put, List.setIfInBounds_toArray, List.set_cons_zero, List.set_cons_succ]))
  (refine mix_loud (by rfl) (by rfl) (fun K E hK => ?_); go_big_op)
  refine (Text_calls c.hd.bytes _ (by omega)).mono ?_; rintro e w3 ⟨rfl, hd⟩
  obtain ⟨x5, rfl⟩ := more_ext x4 hd
  refine hK _ _ ⟨_, rfl⟩ ?_; clear hK K E hd
  repeat (first | (refine mix_quiet (by rfl) (by rfl) (fun K hK => ?_); go_big_quiet_op; refine hK _ ?_; clear hK K) | (refine mix_skip (by rfl) ?_; simp only [Act.put, List.setIfInBounds_toArray, List.set_cons_zero, List.set_cons_succ]))
  refine mix_nil ?_
  go_wp2_with fail
  go_ret2
  exact ⟨rfl, hE2.trans (grow_ext _)⟩

theorem citeBytes_calls (c : Ct) (hc : c.ok) (p q : Value) (w : World) (hp : SlS w w.heap.size p c.path) (hq : SlS w w.heap.size q c.super) :
    Calls Tryz.prog 12 #[citeV c.fz p c.place q c.hd] w fun e w' => e = .returned (.tuple #[.string (bs c.outB), .int .i64 c.outE]) ∧ Ext w w' := by
  by_cases hm : c.may
  · rw [c.outB_ok hm, c.outE_ok hm]
    obtain ⟨m1, m2, m3, m4, m5, m6⟩ := hm
    exact citeBytes_ok c hc m1 m2 (by omega) (by omega) m5 m6 p q w hp hq
  · rw [c.outB_no hm, c.outE_no hm]
    unfold Seal.Ct.may at hm
    by_cases h1 : c.fz.may
    · by_cases h2 : c.hd.may
      · by_cases h3 : c.place < 0
        · exact citeBytes_low c hc h1 h2 h3 p q w hp hq
        by_cases h4 : 1099511627776 < c.place
        · exact citeBytes_high c hc h1 h2 h3 h4 p q w hp hq
        have h5 : 64 < max c.path.length c.super.length := by
          by_cases h5 : 64 < max c.path.length c.super.length
          · exact h5
          · exact absurd ⟨h1, h2, by omega, by omega, by omega, by omega⟩ hm
        exact citeBytes_long c hc h1 h2 h3 h4 h5 p q w hp hq
      · exact citeBytes_hd c hc h1 h2 p q w hp hq
    · exact citeBytes_no c hc h1 p q w hp hq

end Go.Proofs.YtcgnjdkennkheaaGreatDoor

namespace Go.Proofs.YtcgnjdkennkheaaGreatDoor
open Go.RowKit
open Seal (Fz Hd St Ct)
attribute [local go_sem] bs_size bs_toList2 bs_append bs_extract_end bs_extract_begin bs_get wrap64_b grow_cell grow_frozen

end Go.Proofs.YtcgnjdkennkheaaGreatDoor

namespace Go.Proofs.YtcgnjdkennkheaaGreatDoor
open Go.RowKit
open Seal (Fz Hd St Ct)
attribute [local go_sem] bs_size bs_toList2 bs_append bs_extract_end bs_extract_begin bs_get wrap64_b grow_cell grow_frozen

theorem ct_eq (a b : Ct) : a = b ↔ a.fz = b.fz ∧ a.place = b.place ∧ a.hd = b.hd ∧ a.path = b.path ∧ a.super = b.super := by
  obtain ⟨a1, a2, a3, a4, a5⟩ := a
  obtain ⟨b1, b2, b3, b4, b5⟩ := b
  simp only [Seal.Ct.mk.injEq]
  constructor
  · rintro ⟨h1, h2, h3, h4, h5⟩; exact ⟨h1, h3, h5, h2, h4⟩
  · rintro ⟨h1, h3, h5, h2, h4⟩; exact ⟨h1, h2, h3, h4, h5⟩
instance : DecidableEq Ct := fun a b => decidable_of_iff _ (ct_eq a b).symm

set_option maxHeartbeats 4000000 in
theorem ctSame_no_fz (a b : Ct) (ha : a.ok) (hb : b.ok) (efz : ¬ a.fz = b.fz) (pa qa pb qb : Value) (w : World) (h1 : SlS w w.heap.size pa a.path) (h2 : SlS w w.heap.size qa a.super) (h3 : SlS w w.heap.size pb b.path) (h4 : SlS w w.heap.size qb b.super) :
    Calls Tryz.prog 16 #[citeV a.fz pa a.place qa a.hd, citeV b.fz pb b.place qb b.hd] w fun e w' => e = .returned (.bool (decide (a = b))) ∧ Ext w w' := by
  have hdec : decide (a = b) = false := by rw [decide_eq_false_iff_not, ct_eq]; rintro ⟨x1, x2, x3, x4, x5⟩; exact efz x1
  rw [hdec]
  clear hdec
  obtain ⟨r1, r2, r3, r4, r5⟩ := ha
  obtain ⟨s1, s2, s3, s4, s5⟩ := hb
  have hA0 : CiteAt (w.alloc (.cells (citeC a.fz pa a.place qa a.hd).toArray 34)) w.heap.size a.fz pa a.place qa a.hd := Blk.new w 34 _
  have hB0 : CiteAt ((w.alloc (.cells (citeC a.fz pa a.place qa a.hd).toArray 34)).alloc (.cells (citeC b.fz pb b.place qb b.hd).toArray 34)) (w.heap.size + 1) b.fz pb b.place qb b.hd := by
    have := Blk.new (w.alloc (.cells (citeC a.fz pa a.place qa a.hd).toArray 34)) 34 (citeC b.fz pb b.place qb b.hd).toArray
    rw [alloc_size] at this
    exact this
  have hA1 : CiteAt ((w.alloc (.cells (citeC a.fz pa a.place qa a.hd).toArray 34)).alloc (.cells (citeC b.fz pb b.place qb b.hd).toArray 34)) w.heap.size a.fz pa a.place qa a.hd := hA0.ext ((Ext.refl _).alloc _)
  have hE : Ext w ((w.alloc (.cells (citeC a.fz pa a.place qa a.hd).toArray 34)).alloc (.cells (citeC b.fz pb b.place qb b.hd).toArray 34)) := ((Ext.refl w).alloc _).alloc _
  clear hA0
  have heqfz : ∀ w : World, (Op.equalIn 10000 30 a.fz.v b.fz.v).run Tryz.prog w = .ok false w := fun w => by rw [eq_fz a.fz b.fz r1 s1 w]; simp [efz]
  have hgfz := guard_fz
  unfold Seal.Fz.v at heqfz
  have K1 := Lib.hid r4; have K2 := Lib.hid r5; have K3 := Lib.hid s4; have K4 := Lib.hid s5
  clear r4 r5 s4 s5
  clear efz
  unfold citeV
  go_enter Tryz.func16, Tryz.ntmps16
  go_wp2_with (refine stop_load 30 (.tmp 5) rfl ?_)
  refine ⟨?_⟩
  change wpList _ _ _ _ _ ((w.alloc (.cells (citeC a.fz pa a.place qa a.hd).toArray 34)).alloc (.cells (citeC b.fz pb b.place qb b.hd).toArray 34))
  generalize ((w.alloc (.cells (citeC a.fz pa a.place qa a.hd).toArray 34)).alloc (.cells (citeC b.fz pb b.place qb b.hd).toArray 34)) = w0 at *
  have hafz := hA1.fz
  have hahd := hA1.head r1
  have hapl := hA1.place r1 0 _ rfl
  have hapa := hA1.path r1 0 _ rfl
  have hasu := hA1.super r1 0 _ rfl
  have hbfz := hB0.fz
  have hbhd := hB0.head s1
  have hbpl := hB0.place s1 0 _ rfl
  have hbpa := hB0.path s1 0 _ rfl
  have hbsu := hB0.super s1 0 _ rfl
  refine wpList_load_mid rfl 30 (.tmp 5) rfl w.heap.size 0 (by rfl) (a.fz.cells) _ hafz Tryz.underlying30 rfl ((Seal.size_fz a.fz r1).trans (by rw [List.size_toArray])) ?_
  simp only [Act.put, List.setIfInBounds_toArray, List.set_cons_zero, List.set_cons_succ]
  go_wp2_with (refine stop_load 30 (.tmp 7) rfl ?_)
  refine ⟨?_⟩
  refine wpList_load_mid rfl 30 (.tmp 7) rfl (w.heap.size + 1) 0 (by rfl) (b.fz.cells) _ hbfz Tryz.underlying30 rfl ((Seal.size_fz b.fz s1).trans (by rw [List.size_toArray])) ?_
  simp only [Act.put, List.setIfInBounds_toArray, List.set_cons_zero, List.set_cons_succ]
  go_wp2_with fail
  go_ret
  exact ⟨rfl, hE⟩

set_option maxHeartbeats 4000000 in
theorem ctSame_no_place (a b : Ct) (ha : a.ok) (hb : b.ok) (efz : a.fz = b.fz) (eplace : ¬ a.place = b.place) (pa qa pb qb : Value) (w : World) (h1 : SlS w w.heap.size pa a.path) (h2 : SlS w w.heap.size qa a.super) (h3 : SlS w w.heap.size pb b.path) (h4 : SlS w w.heap.size qb b.super) :
    Calls Tryz.prog 16 #[citeV a.fz pa a.place qa a.hd, citeV b.fz pb b.place qb b.hd] w fun e w' => e = .returned (.bool (decide (a = b))) ∧ Ext w w' := by
  have hdec : decide (a = b) = false := by rw [decide_eq_false_iff_not, ct_eq]; rintro ⟨x1, x2, x3, x4, x5⟩; exact eplace x2
  rw [hdec]
  clear hdec
  obtain ⟨r1, r2, r3, r4, r5⟩ := ha
  obtain ⟨s1, s2, s3, s4, s5⟩ := hb
  have hA0 : CiteAt (w.alloc (.cells (citeC a.fz pa a.place qa a.hd).toArray 34)) w.heap.size a.fz pa a.place qa a.hd := Blk.new w 34 _
  have hB0 : CiteAt ((w.alloc (.cells (citeC a.fz pa a.place qa a.hd).toArray 34)).alloc (.cells (citeC b.fz pb b.place qb b.hd).toArray 34)) (w.heap.size + 1) b.fz pb b.place qb b.hd := by
    have := Blk.new (w.alloc (.cells (citeC a.fz pa a.place qa a.hd).toArray 34)) 34 (citeC b.fz pb b.place qb b.hd).toArray
    rw [alloc_size] at this
    exact this
  have hA1 : CiteAt ((w.alloc (.cells (citeC a.fz pa a.place qa a.hd).toArray 34)).alloc (.cells (citeC b.fz pb b.place qb b.hd).toArray 34)) w.heap.size a.fz pa a.place qa a.hd := hA0.ext ((Ext.refl _).alloc _)
  have hE : Ext w ((w.alloc (.cells (citeC a.fz pa a.place qa a.hd).toArray 34)).alloc (.cells (citeC b.fz pb b.place qb b.hd).toArray 34)) := ((Ext.refl w).alloc _).alloc _
  clear hA0
  have heqfz : ∀ w : World, (Op.equalIn 10000 30 a.fz.v b.fz.v).run Tryz.prog w = .ok true w := fun w => by rw [eq_fz a.fz b.fz r1 s1 w]; simp [efz]
  have hgfz := guard_fz
  unfold Seal.Fz.v at heqfz
  have eplb : (a.place == b.place) = false := by simp [eplace]
  have epld : decide (a.place = b.place) = false := by simp [eplace]
  have K1 := Lib.hid r4; have K2 := Lib.hid r5; have K3 := Lib.hid s4; have K4 := Lib.hid s5
  clear r4 r5 s4 s5
  clear efz eplace
  unfold citeV
  go_enter Tryz.func16, Tryz.ntmps16
  go_wp2_with (refine stop_load 30 (.tmp 5) rfl ?_)
  refine ⟨?_⟩
  change wpList _ _ _ _ _ ((w.alloc (.cells (citeC a.fz pa a.place qa a.hd).toArray 34)).alloc (.cells (citeC b.fz pb b.place qb b.hd).toArray 34))
  generalize ((w.alloc (.cells (citeC a.fz pa a.place qa a.hd).toArray 34)).alloc (.cells (citeC b.fz pb b.place qb b.hd).toArray 34)) = w0 at *
  have hafz := hA1.fz
  have hahd := hA1.head r1
  have hapl := hA1.place r1 0 _ rfl
  have hapa := hA1.path r1 0 _ rfl
  have hasu := hA1.super r1 0 _ rfl
  have hbfz := hB0.fz
  have hbhd := hB0.head s1
  have hbpl := hB0.place s1 0 _ rfl
  have hbpa := hB0.path s1 0 _ rfl
  have hbsu := hB0.super s1 0 _ rfl
  refine wpList_load_mid rfl 30 (.tmp 5) rfl w.heap.size 0 (by rfl) (a.fz.cells) _ hafz Tryz.underlying30 rfl ((Seal.size_fz a.fz r1).trans (by rw [List.size_toArray])) ?_
  simp only [Act.put, List.setIfInBounds_toArray, List.set_cons_zero, List.set_cons_succ]
  go_wp2_with (refine stop_load 30 (.tmp 7) rfl ?_)
  refine ⟨?_⟩
  refine wpList_load_mid rfl 30 (.tmp 7) rfl (w.heap.size + 1) 0 (by rfl) (b.fz.cells) _ hbfz Tryz.underlying30 rfl ((Seal.size_fz b.fz s1).trans (by rw [List.size_toArray])) ?_
  simp only [Act.put, List.setIfInBounds_toArray, List.set_cons_zero, List.set_cons_succ]
  go_wp2_with fail
  go_ret
  exact ⟨rfl, hE⟩

set_option maxHeartbeats 4000000 in
theorem ctSame_no_hd (a b : Ct) (ha : a.ok) (hb : b.ok) (efz : a.fz = b.fz) (eplace : a.place = b.place) (ehd : ¬ a.hd = b.hd) (pa qa pb qb : Value) (w : World) (h1 : SlS w w.heap.size pa a.path) (h2 : SlS w w.heap.size qa a.super) (h3 : SlS w w.heap.size pb b.path) (h4 : SlS w w.heap.size qb b.super) :
    Calls Tryz.prog 16 #[citeV a.fz pa a.place qa a.hd, citeV b.fz pb b.place qb b.hd] w fun e w' => e = .returned (.bool (decide (a = b))) ∧ Ext w w' := by
  have hdec : decide (a = b) = false := by rw [decide_eq_false_iff_not, ct_eq]; rintro ⟨x1, x2, x3, x4, x5⟩; exact ehd x3
  rw [hdec]
  clear hdec
  obtain ⟨r1, r2, r3, r4, r5⟩ := ha
  obtain ⟨s1, s2, s3, s4, s5⟩ := hb
  have hA0 : CiteAt (w.alloc (.cells (citeC a.fz pa a.place qa a.hd).toArray 34)) w.heap.size a.fz pa a.place qa a.hd := Blk.new w 34 _
  have hB0 : CiteAt ((w.alloc (.cells (citeC a.fz pa a.place qa a.hd).toArray 34)).alloc (.cells (citeC b.fz pb b.place qb b.hd).toArray 34)) (w.heap.size + 1) b.fz pb b.place qb b.hd := by
    have := Blk.new (w.alloc (.cells (citeC a.fz pa a.place qa a.hd).toArray 34)) 34 (citeC b.fz pb b.place qb b.hd).toArray
    rw [alloc_size] at this
    exact this
  have hA1 : CiteAt ((w.alloc (.cells (citeC a.fz pa a.place qa a.hd).toArray 34)).alloc (.cells (citeC b.fz pb b.place qb b.hd).toArray 34)) w.heap.size a.fz pa a.place qa a.hd := hA0.ext ((Ext.refl _).alloc _)
  have hE : Ext w ((w.alloc (.cells (citeC a.fz pa a.place qa a.hd).toArray 34)).alloc (.cells (citeC b.fz pb b.place qb b.hd).toArray 34)) := ((Ext.refl w).alloc _).alloc _
  clear hA0
  have heqfz : ∀ w : World, (Op.equalIn 10000 30 a.fz.v b.fz.v).run Tryz.prog w = .ok true w := fun w => by rw [eq_fz a.fz b.fz r1 s1 w]; simp [efz]
  have hgfz := guard_fz
  unfold Seal.Fz.v at heqfz
  have heqhd : ∀ w : World, (Op.equalIn 10000 32 a.hd.v b.hd.v).run Tryz.prog w = .ok false w := fun w => by rw [eq_hd a.hd b.hd r2 s2 r3 s3 w]; simp [ehd]
  have hghd := guard_hd
  unfold Seal.Hd.v at heqhd
  have eplb : (a.place == b.place) = true := by simp [eplace]
  have epld : decide (a.place = b.place) = true := by simp [eplace]
  have K1 := Lib.hid r4; have K2 := Lib.hid r5; have K3 := Lib.hid s4; have K4 := Lib.hid s5
  clear r4 r5 s4 s5
  clear efz eplace ehd
  unfold citeV
  go_enter Tryz.func16, Tryz.ntmps16
  go_wp2_with (refine stop_load 30 (.tmp 5) rfl ?_)
  refine ⟨?_⟩
  change wpList _ _ _ _ _ ((w.alloc (.cells (citeC a.fz pa a.place qa a.hd).toArray 34)).alloc (.cells (citeC b.fz pb b.place qb b.hd).toArray 34))
  generalize ((w.alloc (.cells (citeC a.fz pa a.place qa a.hd).toArray 34)).alloc (.cells (citeC b.fz pb b.place qb b.hd).toArray 34)) = w0 at *
  have hafz := hA1.fz
  have hahd := hA1.head r1
  have hapl := hA1.place r1 0 _ rfl
  have hapa := hA1.path r1 0 _ rfl
  have hasu := hA1.super r1 0 _ rfl
  have hbfz := hB0.fz
  have hbhd := hB0.head s1
  have hbpl := hB0.place s1 0 _ rfl
  have hbpa := hB0.path s1 0 _ rfl
  have hbsu := hB0.super s1 0 _ rfl
  refine wpList_load_mid rfl 30 (.tmp 5) rfl w.heap.size 0 (by rfl) (a.fz.cells) _ hafz Tryz.underlying30 rfl ((Seal.size_fz a.fz r1).trans (by rw [List.size_toArray])) ?_
  simp only [Act.put, List.setIfInBounds_toArray, List.set_cons_zero, List.set_cons_succ]
  go_wp2_with (refine stop_load 30 (.tmp 7) rfl ?_)
  refine ⟨?_⟩
  refine wpList_load_mid rfl 30 (.tmp 7) rfl (w.heap.size + 1) 0 (by rfl) (b.fz.cells) _ hbfz Tryz.underlying30 rfl ((Seal.size_fz b.fz s1).trans (by rw [List.size_toArray])) ?_
  simp only [Act.put, List.setIfInBounds_toArray, List.set_cons_zero, List.set_cons_succ]
  go_wp2_with (refine stop_load 32 (.tmp 18) rfl ?_)
  refine ⟨?_⟩
  refine list_wantS (by rfl) (fun K hK => ?_)
  refine wp_load_mid 32 (.tmp 18) rfl w.heap.size 37 (by rfl) (a.hd.cells) _ hahd Tryz.underlying32 rfl ((Seal.size_hd a.hd r2 r3).trans (by rw [List.size_toArray])) ?_
  refine hK _ _ ?_; clear hK K
  simp only [Act.put, List.setIfInBounds_toArray, List.set_cons_zero, List.set_cons_succ]
  go_wp2_with (refine stop_load 32 (.tmp 20) rfl ?_)
  refine ⟨?_⟩
  refine list_wantS (by rfl) (fun K hK => ?_)
  refine wp_load_mid 32 (.tmp 20) rfl (w.heap.size + 1) 37 (by rfl) (b.hd.cells) _ hbhd Tryz.underlying32 rfl ((Seal.size_hd b.hd s2 s3).trans (by rw [List.size_toArray])) ?_
  refine hK _ _ ?_; clear hK K
  simp only [Act.put, List.setIfInBounds_toArray, List.set_cons_zero, List.set_cons_succ]
  go_wp2_with fail
  go_ret
  exact ⟨rfl, hE⟩

set_option maxHeartbeats 4000000 in
theorem ctSame_no_path (a b : Ct) (ha : a.ok) (hb : b.ok) (efz : a.fz = b.fz) (eplace : a.place = b.place) (ehd : a.hd = b.hd) (epath : ¬ a.path = b.path) (pa qa pb qb : Value) (w : World) (h1 : SlS w w.heap.size pa a.path) (h2 : SlS w w.heap.size qa a.super) (h3 : SlS w w.heap.size pb b.path) (h4 : SlS w w.heap.size qb b.super) :
    Calls Tryz.prog 16 #[citeV a.fz pa a.place qa a.hd, citeV b.fz pb b.place qb b.hd] w fun e w' => e = .returned (.bool (decide (a = b))) ∧ Ext w w' := by
  have hdec : decide (a = b) = false := by rw [decide_eq_false_iff_not, ct_eq]; rintro ⟨x1, x2, x3, x4, x5⟩; exact epath x4
  rw [hdec]
  clear hdec
  obtain ⟨r1, r2, r3, r4, r5⟩ := ha
  obtain ⟨s1, s2, s3, s4, s5⟩ := hb
  have hA0 : CiteAt (w.alloc (.cells (citeC a.fz pa a.place qa a.hd).toArray 34)) w.heap.size a.fz pa a.place qa a.hd := Blk.new w 34 _
  have hB0 : CiteAt ((w.alloc (.cells (citeC a.fz pa a.place qa a.hd).toArray 34)).alloc (.cells (citeC b.fz pb b.place qb b.hd).toArray 34)) (w.heap.size + 1) b.fz pb b.place qb b.hd := by
    have := Blk.new (w.alloc (.cells (citeC a.fz pa a.place qa a.hd).toArray 34)) 34 (citeC b.fz pb b.place qb b.hd).toArray
    rw [alloc_size] at this
    exact this
  have hA1 : CiteAt ((w.alloc (.cells (citeC a.fz pa a.place qa a.hd).toArray 34)).alloc (.cells (citeC b.fz pb b.place qb b.hd).toArray 34)) w.heap.size a.fz pa a.place qa a.hd := hA0.ext ((Ext.refl _).alloc _)
  have hE : Ext w ((w.alloc (.cells (citeC a.fz pa a.place qa a.hd).toArray 34)).alloc (.cells (citeC b.fz pb b.place qb b.hd).toArray 34)) := ((Ext.refl w).alloc _).alloc _
  clear hA0
  have heqfz : ∀ w : World, (Op.equalIn 10000 30 a.fz.v b.fz.v).run Tryz.prog w = .ok true w := fun w => by rw [eq_fz a.fz b.fz r1 s1 w]; simp [efz]
  have hgfz := guard_fz
  unfold Seal.Fz.v at heqfz
  have heqhd : ∀ w : World, (Op.equalIn 10000 32 a.hd.v b.hd.v).run Tryz.prog w = .ok true w := fun w => by rw [eq_hd a.hd b.hd r2 s2 r3 s3 w]; simp [ehd]
  have hghd := guard_hd
  unfold Seal.Hd.v at heqhd
  have eplb : (a.place == b.place) = true := by simp [eplace]
  have epld : decide (a.place = b.place) = true := by simp [eplace]
  have dpath : decide (a.path = b.path) = false := by simp [epath]
  have K1 := Lib.hid r4; have K2 := Lib.hid r5; have K3 := Lib.hid s4; have K4 := Lib.hid s5
  clear r4 r5 s4 s5
  clear efz eplace ehd epath
  unfold citeV
  go_enter Tryz.func16, Tryz.ntmps16
  go_wp2_with (refine stop_load 30 (.tmp 5) rfl ?_)
  refine ⟨?_⟩
  change wpList _ _ _ _ _ ((w.alloc (.cells (citeC a.fz pa a.place qa a.hd).toArray 34)).alloc (.cells (citeC b.fz pb b.place qb b.hd).toArray 34))
  generalize ((w.alloc (.cells (citeC a.fz pa a.place qa a.hd).toArray 34)).alloc (.cells (citeC b.fz pb b.place qb b.hd).toArray 34)) = w0 at *
  have hafz := hA1.fz
  have hahd := hA1.head r1
  have hapl := hA1.place r1 0 _ rfl
  have hapa := hA1.path r1 0 _ rfl
  have hasu := hA1.super r1 0 _ rfl
  have hbfz := hB0.fz
  have hbhd := hB0.head s1
  have hbpl := hB0.place s1 0 _ rfl
  have hbpa := hB0.path s1 0 _ rfl
  have hbsu := hB0.super s1 0 _ rfl
  refine wpList_load_mid rfl 30 (.tmp 5) rfl w.heap.size 0 (by rfl) (a.fz.cells) _ hafz Tryz.underlying30 rfl ((Seal.size_fz a.fz r1).trans (by rw [List.size_toArray])) ?_
  simp only [Act.put, List.setIfInBounds_toArray, List.set_cons_zero, List.set_cons_succ]
  go_wp2_with (refine stop_load 30 (.tmp 7) rfl ?_)
  refine ⟨?_⟩
  refine wpList_load_mid rfl 30 (.tmp 7) rfl (w.heap.size + 1) 0 (by rfl) (b.fz.cells) _ hbfz Tryz.underlying30 rfl ((Seal.size_fz b.fz s1).trans (by rw [List.size_toArray])) ?_
  simp only [Act.put, List.setIfInBounds_toArray, List.set_cons_zero, List.set_cons_succ]
  go_wp2_with (refine stop_load 32 (.tmp 18) rfl ?_)
  refine ⟨?_⟩
  refine list_wantS (by rfl) (fun K hK => ?_)
  refine wp_load_mid 32 (.tmp 18) rfl w.heap.size 37 (by rfl) (a.hd.cells) _ hahd Tryz.underlying32 rfl ((Seal.size_hd a.hd r2 r3).trans (by rw [List.size_toArray])) ?_
  refine hK _ _ ?_; clear hK K
  simp only [Act.put, List.setIfInBounds_toArray, List.set_cons_zero, List.set_cons_succ]
  go_wp2_with (refine stop_load 32 (.tmp 20) rfl ?_)
  refine ⟨?_⟩
  refine list_wantS (by rfl) (fun K hK => ?_)
  refine wp_load_mid 32 (.tmp 20) rfl (w.heap.size + 1) 37 (by rfl) (b.hd.cells) _ hbhd Tryz.underlying32 rfl ((Seal.size_hd b.hd s2 s3).trans (by rw [List.size_toArray])) ?_
  refine hK _ _ ?_; clear hK K
  simp only [Act.put, List.setIfInBounds_toArray, List.set_cons_zero, List.set_cons_succ]
  go_wp2_with fail
  refine (citeSame_calls pa pb a.path b.path K1.out K3.out _ (h1.ext hE) (h3.ext hE)).mono ?_; rw [dpath]; rintro e w1 ⟨rfl, e1⟩
  replace hA1 := hA1.ext e1
  replace hB0 := hB0.ext e1
  replace hE := hE.trans e1
  have hasu := hA1.super r1 0 _ rfl
  have hbsu := hB0.super s1 0 _ rfl
  clear hafz hahd hapl hapa hbfz hbhd hbpl hbpa e1
  go_wp2_with fail
  go_ret
  exact ⟨rfl, hE⟩

set_option maxHeartbeats 4000000 in
theorem ctSame_no_super (a b : Ct) (ha : a.ok) (hb : b.ok) (efz : a.fz = b.fz) (eplace : a.place = b.place) (ehd : a.hd = b.hd) (epath : a.path = b.path) (esuper : ¬ a.super = b.super) (pa qa pb qb : Value) (w : World) (h1 : SlS w w.heap.size pa a.path) (h2 : SlS w w.heap.size qa a.super) (h3 : SlS w w.heap.size pb b.path) (h4 : SlS w w.heap.size qb b.super) :
    Calls Tryz.prog 16 #[citeV a.fz pa a.place qa a.hd, citeV b.fz pb b.place qb b.hd] w fun e w' => e = .returned (.bool (decide (a = b))) ∧ Ext w w' := by
  have hdec : decide (a = b) = false := by rw [decide_eq_false_iff_not, ct_eq]; rintro ⟨x1, x2, x3, x4, x5⟩; exact esuper x5
  rw [hdec]
  clear hdec
  obtain ⟨r1, r2, r3, r4, r5⟩ := ha
  obtain ⟨s1, s2, s3, s4, s5⟩ := hb
  have hA0 : CiteAt (w.alloc (.cells (citeC a.fz pa a.place qa a.hd).toArray 34)) w.heap.size a.fz pa a.place qa a.hd := Blk.new w 34 _
  have hB0 : CiteAt ((w.alloc (.cells (citeC a.fz pa a.place qa a.hd).toArray 34)).alloc (.cells (citeC b.fz pb b.place qb b.hd).toArray 34)) (w.heap.size + 1) b.fz pb b.place qb b.hd := by
    have := Blk.new (w.alloc (.cells (citeC a.fz pa a.place qa a.hd).toArray 34)) 34 (citeC b.fz pb b.place qb b.hd).toArray
    rw [alloc_size] at this
    exact this
  have hA1 : CiteAt ((w.alloc (.cells (citeC a.fz pa a.place qa a.hd).toArray 34)).alloc (.cells (citeC b.fz pb b.place qb b.hd).toArray 34)) w.heap.size a.fz pa a.place qa a.hd := hA0.ext ((Ext.refl _).alloc _)
  have hE : Ext w ((w.alloc (.cells (citeC a.fz pa a.place qa a.hd).toArray 34)).alloc (.cells (citeC b.fz pb b.place qb b.hd).toArray 34)) := ((Ext.refl w).alloc _).alloc _
  clear hA0
  have heqfz : ∀ w : World, (Op.equalIn 10000 30 a.fz.v b.fz.v).run Tryz.prog w = .ok true w := fun w => by rw [eq_fz a.fz b.fz r1 s1 w]; simp [efz]
  have hgfz := guard_fz
  unfold Seal.Fz.v at heqfz
  have heqhd : ∀ w : World, (Op.equalIn 10000 32 a.hd.v b.hd.v).run Tryz.prog w = .ok true w := fun w => by rw [eq_hd a.hd b.hd r2 s2 r3 s3 w]; simp [ehd]
  have hghd := guard_hd
  unfold Seal.Hd.v at heqhd
  have eplb : (a.place == b.place) = true := by simp [eplace]
  have epld : decide (a.place = b.place) = true := by simp [eplace]
  have dpath : decide (a.path = b.path) = true := by simp [epath]
  have dsuper : decide (a.super = b.super) = false := by simp [esuper]
  have K1 := Lib.hid r4; have K2 := Lib.hid r5; have K3 := Lib.hid s4; have K4 := Lib.hid s5
  clear r4 r5 s4 s5
  clear efz eplace ehd epath esuper
  unfold citeV
  go_enter Tryz.func16, Tryz.ntmps16
  go_wp2_with (refine stop_load 30 (.tmp 5) rfl ?_)
  refine ⟨?_⟩
  change wpList _ _ _ _ _ ((w.alloc (.cells (citeC a.fz pa a.place qa a.hd).toArray 34)).alloc (.cells (citeC b.fz pb b.place qb b.hd).toArray 34))
  generalize ((w.alloc (.cells (citeC a.fz pa a.place qa a.hd).toArray 34)).alloc (.cells (citeC b.fz pb b.place qb b.hd).toArray 34)) = w0 at *
  have hafz := hA1.fz
  have hahd := hA1.head r1
  have hapl := hA1.place r1 0 _ rfl
  have hapa := hA1.path r1 0 _ rfl
  have hasu := hA1.super r1 0 _ rfl
  have hbfz := hB0.fz
  have hbhd := hB0.head s1
  have hbpl := hB0.place s1 0 _ rfl
  have hbpa := hB0.path s1 0 _ rfl
  have hbsu := hB0.super s1 0 _ rfl
  refine wpList_load_mid rfl 30 (.tmp 5) rfl w.heap.size 0 (by rfl) (a.fz.cells) _ hafz Tryz.underlying30 rfl ((Seal.size_fz a.fz r1).trans (by rw [List.size_toArray])) ?_
  simp only [Act.put, List.setIfInBounds_toArray, List.set_cons_zero, List.set_cons_succ]
  go_wp2_with (refine stop_load 30 (.tmp 7) rfl ?_)
  refine ⟨?_⟩
  refine wpList_load_mid rfl 30 (.tmp 7) rfl (w.heap.size + 1) 0 (by rfl) (b.fz.cells) _ hbfz Tryz.underlying30 rfl ((Seal.size_fz b.fz s1).trans (by rw [List.size_toArray])) ?_
  simp only [Act.put, List.setIfInBounds_toArray, List.set_cons_zero, List.set_cons_succ]
  go_wp2_with (refine stop_load 32 (.tmp 18) rfl ?_)
  refine ⟨?_⟩
  refine list_wantS (by rfl) (fun K hK => ?_)
  refine wp_load_mid 32 (.tmp 18) rfl w.heap.size 37 (by rfl) (a.hd.cells) _ hahd Tryz.underlying32 rfl ((Seal.size_hd a.hd r2 r3).trans (by rw [List.size_toArray])) ?_
  refine hK _ _ ?_; clear hK K
  simp only [Act.put, List.setIfInBounds_toArray, List.set_cons_zero, List.set_cons_succ]
  go_wp2_with (refine stop_load 32 (.tmp 20) rfl ?_)
  refine ⟨?_⟩
  refine list_wantS (by rfl) (fun K hK => ?_)
  refine wp_load_mid 32 (.tmp 20) rfl (w.heap.size + 1) 37 (by rfl) (b.hd.cells) _ hbhd Tryz.underlying32 rfl ((Seal.size_hd b.hd s2 s3).trans (by rw [List.size_toArray])) ?_
  refine hK _ _ ?_; clear hK K
  simp only [Act.put, List.setIfInBounds_toArray, List.set_cons_zero, List.set_cons_succ]
  go_wp2_with fail
  refine (citeSame_calls pa pb a.path b.path K1.out K3.out _ (h1.ext hE) (h3.ext hE)).mono ?_; rw [dpath]; rintro e w1 ⟨rfl, e1⟩
  replace hA1 := hA1.ext e1
  replace hB0 := hB0.ext e1
  replace hE := hE.trans e1
  have hasu := hA1.super r1 0 _ rfl
  have hbsu := hB0.super s1 0 _ rfl
  clear hafz hahd hapl hapa hbfz hbhd hbpl hbpa e1
  go_wp2_with fail
  refine (citeSame_calls qa qb a.super b.super K2.out K4.out _ (h2.ext hE) (h4.ext hE)).mono ?_; rw [dsuper]; rintro e w2 ⟨rfl, e2⟩
  replace hE := hE.trans e2
  go_wp2_with fail
  go_ret
  exact ⟨rfl, hE⟩

set_option maxHeartbeats 4000000 in
theorem ctSame_yes (a b : Ct) (ha : a.ok) (hb : b.ok) (efz : a.fz = b.fz) (eplace : a.place = b.place) (ehd : a.hd = b.hd) (epath : a.path = b.path) (esuper : a.super = b.super) (pa qa pb qb : Value) (w : World) (h1 : SlS w w.heap.size pa a.path) (h2 : SlS w w.heap.size qa a.super) (h3 : SlS w w.heap.size pb b.path) (h4 : SlS w w.heap.size qb b.super) :
    Calls Tryz.prog 16 #[citeV a.fz pa a.place qa a.hd, citeV b.fz pb b.place qb b.hd] w fun e w' => e = .returned (.bool (decide (a = b))) ∧ Ext w w' := by
  have hdec : decide (a = b) = true := by rw [decide_eq_true_iff, ct_eq]; exact ⟨efz, eplace, ehd, epath, esuper⟩
  rw [hdec]
  clear hdec
  obtain ⟨r1, r2, r3, r4, r5⟩ := ha
  obtain ⟨s1, s2, s3, s4, s5⟩ := hb
  have hA0 : CiteAt (w.alloc (.cells (citeC a.fz pa a.place qa a.hd).toArray 34)) w.heap.size a.fz pa a.place qa a.hd := Blk.new w 34 _
  have hB0 : CiteAt ((w.alloc (.cells (citeC a.fz pa a.place qa a.hd).toArray 34)).alloc (.cells (citeC b.fz pb b.place qb b.hd).toArray 34)) (w.heap.size + 1) b.fz pb b.place qb b.hd := by
    have := Blk.new (w.alloc (.cells (citeC a.fz pa a.place qa a.hd).toArray 34)) 34 (citeC b.fz pb b.place qb b.hd).toArray
    rw [alloc_size] at this
    exact this
  have hA1 : CiteAt ((w.alloc (.cells (citeC a.fz pa a.place qa a.hd).toArray 34)).alloc (.cells (citeC b.fz pb b.place qb b.hd).toArray 34)) w.heap.size a.fz pa a.place qa a.hd := hA0.ext ((Ext.refl _).alloc _)
  have hE : Ext w ((w.alloc (.cells (citeC a.fz pa a.place qa a.hd).toArray 34)).alloc (.cells (citeC b.fz pb b.place qb b.hd).toArray 34)) := ((Ext.refl w).alloc _).alloc _
  clear hA0
  have heqfz : ∀ w : World, (Op.equalIn 10000 30 a.fz.v b.fz.v).run Tryz.prog w = .ok true w := fun w => by rw [eq_fz a.fz b.fz r1 s1 w]; simp [efz]
  have hgfz := guard_fz
  unfold Seal.Fz.v at heqfz
  have heqhd : ∀ w : World, (Op.equalIn 10000 32 a.hd.v b.hd.v).run Tryz.prog w = .ok true w := fun w => by rw [eq_hd a.hd b.hd r2 s2 r3 s3 w]; simp [ehd]
  have hghd := guard_hd
  unfold Seal.Hd.v at heqhd
  have eplb : (a.place == b.place) = true := by simp [eplace]
  have epld : decide (a.place = b.place) = true := by simp [eplace]
  have dpath : decide (a.path = b.path) = true := by simp [epath]
  have dsuper : decide (a.super = b.super) = true := by simp [esuper]
  have K1 := Lib.hid r4; have K2 := Lib.hid r5; have K3 := Lib.hid s4; have K4 := Lib.hid s5
  clear r4 r5 s4 s5
  clear efz eplace ehd epath esuper
  unfold citeV
  go_enter Tryz.func16, Tryz.ntmps16
  go_wp2_with (refine stop_load 30 (.tmp 5) rfl ?_)
  refine ⟨?_⟩
  change wpList _ _ _ _ _ ((w.alloc (.cells (citeC a.fz pa a.place qa a.hd).toArray 34)).alloc (.cells (citeC b.fz pb b.place qb b.hd).toArray 34))
  generalize ((w.alloc (.cells (citeC a.fz pa a.place qa a.hd).toArray 34)).alloc (.cells (citeC b.fz pb b.place qb b.hd).toArray 34)) = w0 at *
  have hafz := hA1.fz
  have hahd := hA1.head r1
  have hapl := hA1.place r1 0 _ rfl
  have hapa := hA1.path r1 0 _ rfl
  have hasu := hA1.super r1 0 _ rfl
  have hbfz := hB0.fz
  have hbhd := hB0.head s1
  have hbpl := hB0.place s1 0 _ rfl
  have hbpa := hB0.path s1 0 _ rfl
  have hbsu := hB0.super s1 0 _ rfl
  refine wpList_load_mid rfl 30 (.tmp 5) rfl w.heap.size 0 (by rfl) (a.fz.cells) _ hafz Tryz.underlying30 rfl ((Seal.size_fz a.fz r1).trans (by rw [List.size_toArray])) ?_
  simp only [Act.put, List.setIfInBounds_toArray, List.set_cons_zero, List.set_cons_succ]
  go_wp2_with (refine stop_load 30 (.tmp 7) rfl ?_)
  refine ⟨?_⟩
  refine wpList_load_mid rfl 30 (.tmp 7) rfl (w.heap.size + 1) 0 (by rfl) (b.fz.cells) _ hbfz Tryz.underlying30 rfl ((Seal.size_fz b.fz s1).trans (by rw [List.size_toArray])) ?_
  simp only [Act.put, List.setIfInBounds_toArray, List.set_cons_zero, List.set_cons_succ]
  go_wp2_with (refine stop_load 32 (.tmp 18) rfl ?_)
  refine ⟨?_⟩
  refine list_wantS (by rfl) (fun K hK => ?_)
  refine wp_load_mid 32 (.tmp 18) rfl w.heap.size 37 (by rfl) (a.hd.cells) _ hahd Tryz.underlying32 rfl ((Seal.size_hd a.hd r2 r3).trans (by rw [List.size_toArray])) ?_
  refine hK _ _ ?_; clear hK K
  simp only [Act.put, List.setIfInBounds_toArray, List.set_cons_zero, List.set_cons_succ]
  go_wp2_with (refine stop_load 32 (.tmp 20) rfl ?_)
  refine ⟨?_⟩
  refine list_wantS (by rfl) (fun K hK => ?_)
  refine wp_load_mid 32 (.tmp 20) rfl (w.heap.size + 1) 37 (by rfl) (b.hd.cells) _ hbhd Tryz.underlying32 rfl ((Seal.size_hd b.hd s2 s3).trans (by rw [List.size_toArray])) ?_
  refine hK _ _ ?_; clear hK K
  simp only [Act.put, List.setIfInBounds_toArray, List.set_cons_zero, List.set_cons_succ]
  go_wp2_with fail
  refine (citeSame_calls pa pb a.path b.path K1.out K3.out _ (h1.ext hE) (h3.ext hE)).mono ?_; rw [dpath]; rintro e w1 ⟨rfl, e1⟩
  replace hA1 := hA1.ext e1
  replace hB0 := hB0.ext e1
  replace hE := hE.trans e1
  have hasu := hA1.super r1 0 _ rfl
  have hbsu := hB0.super s1 0 _ rfl
  clear hafz hahd hapl hapa hbfz hbhd hbpl hbpa e1
  go_wp2_with fail
  refine (citeSame_calls qa qb a.super b.super K2.out K4.out _ (h2.ext hE) (h4.ext hE)).mono ?_; rw [dsuper]; rintro e w2 ⟨rfl, e2⟩
  replace hE := hE.trans e2
  go_wp2_with fail
  go_ret
  exact ⟨rfl, hE⟩

theorem ctSame_calls (a b : Ct) (ha : a.ok) (hb : b.ok) (pa qa pb qb : Value) (w : World) (h1 : SlS w w.heap.size pa a.path) (h2 : SlS w w.heap.size qa a.super) (h3 : SlS w w.heap.size pb b.path) (h4 : SlS w w.heap.size qb b.super) :
    Calls Tryz.prog 16 #[citeV a.fz pa a.place qa a.hd, citeV b.fz pb b.place qb b.hd] w fun e w' => e = .returned (.bool (decide (a = b))) ∧ Ext w w' := by
  by_cases efz : a.fz = b.fz
  case neg => exact ctSame_no_fz a b ha hb efz pa qa pb qb w h1 h2 h3 h4
  by_cases eplace : a.place = b.place
  case neg => exact ctSame_no_place a b ha hb efz eplace pa qa pb qb w h1 h2 h3 h4
  by_cases ehd : a.hd = b.hd
  case neg => exact ctSame_no_hd a b ha hb efz eplace ehd pa qa pb qb w h1 h2 h3 h4
  by_cases epath : a.path = b.path
  case neg => exact ctSame_no_path a b ha hb efz eplace ehd epath pa qa pb qb w h1 h2 h3 h4
  by_cases esuper : a.super = b.super
  case neg => exact ctSame_no_super a b ha hb efz eplace ehd epath esuper pa qa pb qb w h1 h2 h3 h4
  exact ctSame_yes a b ha hb efz eplace ehd epath esuper pa qa pb qb w h1 h2 h3 h4

end Go.Proofs.YtcgnjdkennkheaaGreatDoor

namespace Go.Proofs.YtcgnjdkennkheaaGreatDoor
open Go.RowKit
open Seal (Fz Hd St Ct)
attribute [local go_sem] bs_size bs_toList2 bs_append bs_extract_end bs_extract_begin bs_get wrap64_b grow_cell grow_frozen


end Go.Proofs.YtcgnjdkennkheaaGreatDoor

namespace Go.Proofs.YtcgnjdkennkheaaGreatDoor
open Go.ChangeShapes Go.WideShapes Go.ChangeAt Go.RowKit
attribute [local go_sem] bs_size bs_toList2 bs_append bs_extract_end bs_extract_begin bs_get wrap64_b grow_cell grow_frozen

theorem pad32_cut (q : List UInt8) : Seal.pad32 (q.take (min q.length 32)) = Seal.pad32 q := by
  unfold Seal.pad32
  by_cases h : q.length ≤ 32
  · rw [Nat.min_eq_left h, List.take_length]
  · rw [Nat.min_eq_right (by omega), List.take_append_of_le_length (by simp; omega), List.take_append_of_le_length (by omega), List.take_take, Nat.min_self]

set_option maxHeartbeats 2000000 in
theorem hashes_calls (g gx : Nat) (x : Oct.Sc) (w : World) (h : ScAt w g x) (hx : Blk w gx 83 #[.pointer (some ⟨g, 0, none⟩)]) (hl : x.left.length ≤ 1099511627776) :
    Calls Tryz.prog 38 #[.pointer (some ⟨gx, 0, none⟩)] w fun e w' => ScAt w' g (x.list 64).2 ∧ (∃ v B, e = .returned v ∧ w.heap.size ≤ B ∧ OwnS w' B v ((x.list 64).1.map Seal.pad32)) ∧ Upd g w w' := by
  have hlm := Seal.list_len x 64 (by omega)
  have HL := ScList_calls g x 64 w h hl (by omega) (by omega)
  have cx : w.cell? ⟨gx, 0, none⟩ = some (.pointer (some ⟨g, 0, none⟩)) := Blk.cell hx 0
  generalize x.list 64 = lx at *
  obtain ⟨l, x'⟩ := lx
  simp only at hlm HL ⊢
  obtain ⟨pl, hpl⟩ : ∃ pl, pl = l.map Seal.pad32 := ⟨_, rfl⟩
  rw [← hpl]
  have hplen : pl.length = l.length := by rw [hpl, List.length_map]
  have hpn : ∀ (k : Nat) (hk : k < l.length), pl.take (k + 1) = pl.take k ++ [Seal.pad32 l[k]] := fun k hk => by
    rw [List.take_succ_eq_append_getElem (by omega)]
    congr 2
    simp [hpl]
  have HL2 := Lib.hid HL; have Hpn := Lib.hid hpn; have Hpl := Lib.hid hplen
  clear HL hpn hplen hpl h hl
  go_enter Tryz.func38, Tryz.ntmps38
  go_wp2_with fail
  refine HL2.out.mono ?_; rintro e w1 ⟨hS1, ⟨A, c, rfl, hR⟩, hU1⟩
  have hRd := hR.rd
  clear cx HL2 hR hx
  go_wp2_with fail
  go_loopw [2, 9] (fun s2 s9 wr => ∃ k : Nat, k ≤ l.length ∧ s9 = .int .i64 (k : Int) ∧ wr.ownsRow w1.heap.size 28 32 s2 k (flatS (pl.take k)) ∧ Ext w1 wr) (fun _ s9 _ => l.length - (intOf s9).toNat)
  case atStart => exact ⟨0, Nat.zero_le _, rfl, World.ownsRow_nil _ _ _ _, Ext.refl _⟩
  case round =>
    obtain ⟨wo, rfl⟩ : ∃ wo : World, wo = wr := ⟨_, rfl⟩
    obtain ⟨k, hk, rfl, hown, hE⟩ := hrel
    by_cases hlt : k < l.length
    · have hlI : (k : Int) < (l.length : Int) := by omega
      obtain ⟨b, off, rfl, hb, hc⟩ := (hRd.below hE (Nat.le_refl _)) (map_ne strV hlt)
      have c1 := hc k (strV l[k]) (by simp [hlt])
      have HS := Lib.hid (Hpn.out k hlt)
      clear hc
      generalize l[k] = q at *
      unfold strV at c1
      obtain ⟨m, hm⟩ : ∃ m, m = min q.length 32 := ⟨_, rfl⟩
      have hmin : min (q.length : Int) 32 = (m : Int) := by omega
      have hmq : m ≤ q.length := by omega
      have hm32 : m ≤ 32 := by omega
      have hz := pad32_cut q
      rw [← hm] at hz
      have hz32 : (Seal.pad32 q).length = 32 := Seal.pad32_length q
      generalize Seal.pad32 q = z at *
      have Hz := Lib.hid hz
      clear hz hm
      have hZ : ArrB (wo.alloc (.cells ((zerosB 32).map byteV).toArray 28)) wo.heap.size 28 (zerosB 32) := Blk.new _ _ _
      go_wp2_with fail
      change (Code.region _ _ _).wp _ _ _ (wo.alloc (.cells ((zerosB 32).map byteV).toArray 28))
      have eZ : Ext wo (wo.alloc (.cells ((zerosB 32).map byteV).toArray 28)) := (Ext.refl wo).alloc _
      have hown2 := owns_ext hown eZ
      have hE2 := hE.trans eZ
      clear hown2 hE2 c1
      have hgl := hZ.lt
      have hbz : w1.heap.size ≤ wo.heap.size := hE.size
      have Hk := Lib.hid (show (pl.take k).length = k by rw [List.length_take, Hpl.out]; omega)
      generalize (wo.alloc (.cells ((zerosB 32).map byteV).toArray 28)) = w2 at *
      refine region_keep0 (fun k => k ≠ wo.heap.size) (by kernel_rfl) (by kernel_rfl) ?_
      repeat (first | (refine mix_quiet (by rfl) (by rfl) (fun K hK => ?_); go_big_quiet_op; refine hK _ ?_; clear hK K) | (refine mix_skip (by rfl) ?_; simp only [Act.put, List.setIfInBounds_toArray, List.set_cons_zero, List.set_cons_succ]))
      refine mix_loud (by rfl) (by rfl) (fun K E hK => ?_)
      refine Lib.wp_copy_run _ (.tmp 13) (.tmp 18) 87 9 rfl _ _ rfl rfl (copy_pad w2.drew wo.heap.size (q.take m) (by simp; omega) hZ.drew _) ?_
      rw [Hz.out]
      refine hK _ _ (held_of (((Keep.refl _ w2).drew).row (by simp) _)) ?_; clear hK K E
      simp only [Act.put, List.setIfInBounds_toArray, List.set_cons_zero, List.set_cons_succ]
      refine mix_nil ?_
      have hX : ArrB (w2.drew.setRow wo.heap.size (z.map byteV).toArray) wo.heap.size 28 z := Blk.row hZ.drew _
      have eX : Ext wo (w2.drew.setRow wo.heap.size (z.map byteV).toArray) := eZ.drew.row (Nat.le_refl _) _
      have hown3 := owns_ext hown eX
      have hE3 := hE.trans eX
      have hs3 := eX.size
      clear hown hE hZ eZ eX
      generalize w2.drew.setRow wo.heap.size (z.map byteV).toArray = w3 at *
      go_wp2_with (refine stop_load 28 (.tmp 5) rfl ?_)
      refine ⟨?_⟩
      refine wpList_load_row rfl 28 (.tmp 5) rfl wo.heap.size (by rfl) 28 _ (0, 0) _ hX Tryz.underlying28 rfl (size32.trans (by simp [hz32])) ?_
      simp only [Act.put, List.setIfInBounds_toArray, List.set_cons_zero, List.set_cons_succ]
      refine wpList_buildSums rfl 1 _ rfl [z] (AllH.cons hz32 AllH.nil) rfl (by decide) (by decide) (by rfl) ?_
      simp only [Act.put, List.setIfInBounds_toArray, List.set_cons_zero, List.set_cons_succ]
      refine append_one rfl (.tmp 20) (.tmp 22) rfl _ (pl.take k) z rfl rfl hz32 (by rw [Hk.out]; omega) w1.heap.size (by omega) k Hk.out hown3 hE3 (Nat.le_refl _) fun A5 c5 w5 hO5 hX5 => ?_
      simp only [Act.put, List.setIfInBounds_toArray, List.set_cons_zero, List.set_cons_succ]
      clear hown3 hX hE3
      go_wp2_with fail
      go_roundw
      case rel => exact ⟨k + 1, by omega, by go_num, by rw [HS.out]; exact hO5, hX5⟩
      case measure => simp [intOf]; omega
    · obtain rfl : k = l.length := by omega
      rw [List.take_of_length_le (Nat.le_of_eq Hpl.out), ← Hpl.out] at hown
      have hs := OwnS.of_own hown
      have hB := hU1.size
      clear hown
      go_wp2_with fail
      go_ret
      exact ⟨hS1.ext hE, ⟨_, _, rfl, hB, hs⟩, hU1.ext hE⟩

end Go.Proofs.YtcgnjdkennkheaaGreatDoor

namespace Go.Proofs.YtcgnjdkennkheaaGreatDoor
open Go.ChangeShapes Go.WideShapes Go.ChangeAt Go.RowKit
attribute [local go_sem] bs_size bs_toList2 bs_append bs_extract_end bs_extract_begin bs_get wrap64_b grow_cell grow_frozen

end Go.Proofs.YtcgnjdkennkheaaGreatDoor

namespace Go.Proofs.YtcgnjdkennkheaaGreatDoor
open Go.RowKit
open Seal (Fz Hd St Ct)

section
variable {w w' : World} {g k : Nat}
theorem ScAt.updO {x : Oct.Sc} (h : ScAt w g x) (hU : Upd k w w') (hne : g ≠ k) : ScAt w' g x := Blk.grown h hU (by simpa using hne)
/-- A variable that holds the scanner's address. -/
def PtrAt (w : World) (gx g : Nat) : Prop := Blk w gx 83 #[.pointer (some ⟨g, 0, none⟩)]
theorem PtrAt.lt {gx : Nat} (h : PtrAt w gx g) : gx < w.heap.size := Blk.lt h
theorem PtrAt.ext {gx : Nat} (h : PtrAt w gx g) (e : Ext w w') : PtrAt w' gx g := Blk.below h e (Blk.lt h)
theorem PtrAt.updO {gx : Nat} (h : PtrAt w gx g) (hU : Upd k w w') (hne : gx ≠ k) : PtrAt w' gx g := Blk.grown h hU (by simpa using hne)
theorem PtrAt.c {gx : Nat} (h : PtrAt w gx g) : w.cell? ⟨gx, 0, none⟩ = some (.pointer (some ⟨g, 0, none⟩)) := Blk.cell h 0
theorem FzAt.updO {f : Fz} (h : FzAt w g f) (hU : Upd k w w') (hne : g ≠ k) : FzAt w' g f := Blk.grown h hU (by simpa using hne)
theorem HdAt.updO {f : Hd} (h : HdAt w g f) (hU : Upd k w w') (hne : g ≠ k) : HdAt w' g f := Blk.grown h hU (by simpa using hne)
theorem OwnS.updO {B : Nat} {v : Value} {l : List (List UInt8)} (h : OwnS w B v l) (hU : Upd k w w') (hk : k < B) : OwnS w' B v l := by
  obtain ⟨A, cap, h1, h2, h3, h4, h5⟩ := h
  refine ⟨A, cap, h1, h2, h3, h4, fun hl => World.ownsRow.kept (h5 hl) hU ?_⟩
  cases hb : v.ownBlock with
  | none => exact .inl rfl
  | some i =>
    refine .inr fun e => ?_
    injection e with e
    have := (h5 hl).lt i hb
    omega
theorem upd_self : ∀ (vs : List Value) (o : Nat) (w' : World), Upd g w w' → Upd g w (w'.setCells g o vs)
  | [], o, w', h => h
  | v :: vs, o, w', h => upd_self vs (o + 1) _ (h.setCell (p := ⟨g, o, none⟩) (.inl rfl) v)
end
section
variable {w w' : World} {g k : Nat} {f : Fz} {p q : Value} {pl : Int} {h : Hd}
theorem CiteAt.lt (c : CiteAt w g f p pl q h) : g < w.heap.size := Blk.lt c
theorem CiteAt.updO (c : CiteAt w g f p pl q h) (hU : Upd k w w') (hne : g ≠ k) : CiteAt w' g f p pl q h := Blk.grown c hU (by simpa using hne)
theorem CiteAt.setPath (c : CiteAt w g f p pl q h) (hr : f.root.length = 32) (v : Value) : CiteAt (w.setCell ⟨g, 34, none⟩ v) g f v pl q h := Blk.mid (pre := f.cells) (old := [p]) (post := .int .i64 pl :: q :: h.cells) c [v] 34 (fz_cells hr).symm rfl
theorem CiteAt.setPlace (c : CiteAt w g f p pl q h) (hr : f.root.length = 32) (n : Int) : CiteAt (w.setCell ⟨g, 35, none⟩ (.int .i64 n)) g f p n q h := by
  have := Blk.mid (w := w) (g := g) (t := 34) (pre := f.cells ++ [p]) (old := [.int .i64 pl]) (post := q :: h.cells) (by simpa [CiteAt, citeC] using c) [.int .i64 n] 35 (by simp [fz_cells hr]) rfl
  simpa [CiteAt, citeC, World.setCells] using this
theorem CiteAt.setSuper (c : CiteAt w g f p pl q h) (hr : f.root.length = 32) (v : Value) : CiteAt (w.setCell ⟨g, 36, none⟩ v) g f p pl v h := by
  have := Blk.mid (w := w) (g := g) (t := 34) (pre := f.cells ++ [p, .int .i64 pl]) (old := [q]) (post := h.cells) (by simpa [CiteAt, citeC] using c) [v] 36 (by simp [fz_cells hr]) rfl
  simpa [CiteAt, citeC, World.setCells] using this
theorem CiteAt.setHead (c : CiteAt w g f p pl q h) (hr : f.root.length = 32) (h1 : h.root.length = 32) (h2 : h.mac.length = 32) (z : Hd) (z1 : z.root.length = 32) (z2 : z.mac.length = 32) : CiteAt (w.setCells g 37 z.cells.toArray.toList) g f p pl q z := by
  have := Blk.mid (w := w) (g := g) (t := 34) (pre := f.cells ++ [p, .int .i64 pl, q]) (old := h.cells) (post := []) (by simpa [CiteAt, citeC] using c) z.cells 37 (by simp [fz_cells hr]) (by rw [Seal.Hd.cells_length h h1 h2, Seal.Hd.cells_length z z1 z2])
  simpa [CiteAt, citeC] using this
theorem citeC_length (hr : f.root.length = 32) (h1 : h.root.length = 32) (h2 : h.mac.length = 32) : (citeC f p pl q h).length = 103 := by
  simp [citeC, fz_cells hr, Seal.Hd.cells_length h h1 h2]
theorem size_ct (hr : f.root.length = 32) (h1 : h.root.length = 32) (h2 : h.mac.length = 32) : (Tryz.prog.info? 34).map (·.size) = some (citeC f p pl q h).toArray.size := by
  rw [List.size_toArray, citeC_length hr h1 h2]; kernel_rfl
theorem citeC_one (hp : p.oneCell' = true) (hq : q.oneCell' = true) : ∀ u ∈ citeC f p pl q h, u.oneCell' = true := fun u hu => by
  simp only [citeC, List.mem_append, List.mem_cons] at hu
  rcases hu with hu | rfl | rfl | rfl | hu
  · exact Seal.Fz.one _ u hu
  · exact hp
  · rfl
  · exact hq
  · exact Seal.Hd.one _ u hu
end
theorem zero_ct : (Tryz.prog.info? 34).map (·.zero) = some (some (citeV Seal.zF (.slice none 0 0) 0 (.slice none 0 0) Seal.zH)) := by kernel_rfl
theorem built_ct (f : Fz) (hf : f.root.length = 32) : Tryz.prog.built 34 [(0, f.v)] = some (citeC f (.slice none 0 0) 0 (.slice none 0 0) Seal.zH).toArray := by
  rw [built_of Tryz.underlying34 zero_ct (pl := [(0, 34), (34, 1), (35, 1), (36, 1), (37, 66)]) (by kernel_rfl)]
  have h1 := fill_one (place := ([(0, 34), (34, 1), (35, 1), (36, 1), (37, 66)].toArray[·]?)) (i := 0) (off := 0) (size := 34) rfl f.v [] (Fz.cells ⟨0, 0, List.replicate 32 0⟩) (.slice none 0 0 :: .int .i64 0 :: .slice none 0 0 :: Seal.zH.cells) rfl (by simp [Seal.Fz.v, Value.cells, Seal.Fz.cells_length _ hf]) rfl []
  rw [List.nil_append, List.nil_append] at h1
  refine h1.trans ?_
  simp [Instr.fill, Seal.Fz.v, Value.cells, citeC]
theorem OwnS.oneCell {w : World} {B : Nat} {v : Value} {l : List (List UInt8)} (h : OwnS w B v l) : v.oneCell' = true := by
  obtain ⟨A, cap, rfl, _⟩ := h
  rfl
theorem SlS.oneCell {w : World} {B : Nat} {v : Value} {l : List (List UInt8)} (h : SlS w B v l) : v.oneCell' = true := by
  obtain ⟨A, cap, rfl, _⟩ := h
  rfl

end Go.Proofs.YtcgnjdkennkheaaGreatDoor

namespace Go.Proofs.YtcgnjdkennkheaaGreatDoor
open Go.RowKit
open Seal (Fz Hd St Ct)
attribute [local go_sem] bs_size bs_toList2 bs_append bs_extract_end bs_extract_begin bs_get wrap64_b

namespace Seal.Ct
def readC (s : List UInt8) : Ct := (read s).getD ⟨Seal.zF, [], 0, [], Seal.zH⟩
def readE (s : List UInt8) : Int := if (read s).isSome then 0 else 10
theorem read_yes (s : List UInt8) (h : good s) : read s = some (parse s).1 := if_pos h
theorem read_no (s : List UInt8) (h : ¬ good s) : read s = none := if_neg h
theorem readC_yes (s : List UInt8) (h : good s) : readC s = (parse s).1 := by unfold readC; rw [read_yes s h]; rfl
theorem readE_yes (s : List UInt8) (h : good s) : readE s = 0 := by unfold readE; rw [read_yes s h]; rfl
theorem readC_no (s : List UInt8) (h : ¬ good s) : readC s = ⟨Seal.zF, [], 0, [], Seal.zH⟩ := by unfold readC; rw [read_no s h]; rfl
theorem readE_no (s : List UInt8) (h : ¬ good s) : readE s = 10 := by unfold readE; rw [read_no s h]; rfl
end Seal.Ct
theorem errOf_zero {α : Type} (o : Option α) : o.isSome = true ↔ Seal.errOf o = 0 := by
  cases o <;> simp [Seal.errOf]
theorem updRow (w : World) (g : Nat) (cs : Array Value) : Upd g w (w.setRow g cs) :=
  ⟨rfl, rfl, rfl, by simp [World.setRow], fun i hi hne => heap_setRow i (fun e => hne (by rw [e]))⟩
theorem slsZero (w : World) : SlS w w.heap.size (.slice none 0 0) [] := ⟨none, 0, rfl, .inl ⟨.inl rfl, rfl, rfl⟩, Nat.le_refl _, by omega, Rd.nil⟩
theorem built_ct0 : Tryz.prog.built 34 [] = some (citeC Seal.zF (.slice none 0 0) 0 (.slice none 0 0) Seal.zH).toArray := by
  rw [built_of Tryz.underlying34 zero_ct (pl := [(0, 34), (34, 1), (35, 1), (36, 1), (37, 66)]) (by kernel_rfl)]
  rfl

set_option maxHeartbeats 8000000 in
theorem citeRead_calls (s : List UInt8) (hs : s.length ≤ 1099511627776) (w : World) :
    Calls Tryz.prog 13 #[.string (bs s)] w fun e w' => ∃ P Q, e = .returned (.tuple #[citeV (Seal.Ct.readC s).fz P (Seal.Ct.readC s).place Q (Seal.Ct.readC s).hd, .int .i64 (Seal.Ct.readE s)]) ∧ SlS w' w'.heap.size P (Seal.Ct.readC s).path ∧ SlS w' w'.heap.size Q (Seal.Ct.readC s).super ∧ Ext w w' := by
  have hR0 : CiteAt (w.alloc (.cells (citeC Seal.zF (.slice none 0 0) 0 (.slice none 0 0) Seal.zH).toArray 34)) w.heap.size Seal.zF (.slice none 0 0) 0 (.slice none 0 0) Seal.zH := Blk.new w _ _
  have hE : Ext w (w.alloc (.cells (citeC Seal.zF (.slice none 0 0) 0 (.slice none 0 0) Seal.zH).toArray 34)) := (Ext.refl w).alloc _
  have hRl : w.heap.size < (w.alloc (.cells (citeC Seal.zF (.slice none 0 0) 0 (.slice none 0 0) Seal.zH).toArray 34)).heap.size := Blk.lt hR0
  have hR := hR0
  clear hR0
  obtain ⟨post, hpost⟩ : ∃ post : Ending → World → Prop, post = fun e w' => ∃ P Q, e = .returned (.tuple #[citeV (Seal.Ct.readC s).fz P (Seal.Ct.readC s).place Q (Seal.Ct.readC s).hd, .int .i64 (Seal.Ct.readE s)]) ∧ SlS w' w'.heap.size P (Seal.Ct.readC s).path ∧ SlS w' w'.heap.size Q (Seal.Ct.readC s).super ∧ Ext w w' := ⟨_, rfl⟩
  rw [← hpost]
  have HT1 := fun w g hw => ScText_calls g ⟨s, false⟩ 16777216 w hw (by simp; omega) (by omega) (by omega)
  have t1 := Oct.text_length_le ⟨s, false⟩ 16777216
  have n1 := Oct.text_left_le ⟨s, false⟩ 16777216
  simp only at t1 n1
  obtain ⟨pc, hpc0⟩ : ∃ c, c = Seal.Ct.parse s := ⟨_, rfl⟩
  have hgood := Seal.Ct.good_parts s
  have hok := Seal.Ct.parse_ok s
  have hgd : Seal.Ct.good s ↔ pc.2.endE = 0 ∧ pc.1.may ∧ pc.1.bytes = s := by rw [hpc0]; exact Iff.rfl
  have hyes : Seal.Ct.good s → Seal.Ct.readC s = pc.1 := fun h => by rw [hpc0]; exact Seal.Ct.readC_yes s h
  have hpc := hpc0
  rw [← hpc] at hok
  clear hpc0
  unfold Seal.Ct.parse at hpc
  unfold Seal.Ct.headText at hgood
  simp only at hpc
  generalize Oct.Sc.text ⟨s, false⟩ 16777216 = a at *
  have HL1 := fun w g gx hw hx => hashes_calls g gx a.2 w hw hx (by omega)
  have n2 := Oct.list_left_le a.2 64
  generalize a.2.list 64 = b at *
  have HN := fun w g hw => Num_calls g b.2 1099511627776 w hw (by omega) (by omega) (by omega)
  have n3 := Oct.num_left_le b.2 1099511627776
  generalize b.2.num 1099511627776 = p at *
  have HL2 := fun w g gx hw hx => hashes_calls g gx p.2 w hw hx (by omega)
  have n4 := Oct.list_left_le p.2 64
  generalize p.2.list 64 = q at *
  have HT2 := fun w g hw => ScText_calls g q.2 16777216 w hw (by omega) (by omega) (by omega)
  have t2 := Oct.text_length_le q.2 16777216
  generalize q.2.text 16777216 = r at *
  have HRf := fun w => ReadFreeze_calls a.1 (by omega) w
  have HRh := fun w => ReadHead_calls r.1 (by omega) w
  have f1 := Seal.Ct.fz_getD a.1
  obtain ⟨h1, h2⟩ := Seal.Ct.hd_getD r.1
  have hef : (Fz.read a.1).isSome = true ↔ Seal.errOf (Fz.read a.1) = 0 := errOf_zero _
  have heh : (Hd.read r.1).isSome = true ↔ Seal.errOf (Hd.read r.1) = 0 := errOf_zero _
  rw [hef, heh] at hgood
  change ((Fz.read a.1).getD Seal.zF).root.length = 32 at f1
  change ((Hd.read r.1).getD Seal.zH).root.length = 32 at h1
  change ((Hd.read r.1).getD Seal.zH).mac.length = 32 at h2
  change pc = (⟨(Fz.read a.1).getD Seal.zF, _, _, _, (Hd.read r.1).getD Seal.zH⟩, _) at hpc
  clear hef heh
  generalize (Fz.read a.1).getD Seal.zF = fz at *
  generalize (Hd.read r.1).getD Seal.zH = hd at *
  generalize Seal.errOf (Fz.read a.1) = fe at *
  generalize Seal.errOf (Hd.read r.1) = he at *
  subst hpc
  simp only at hgd hyes hok
  generalize List.map Seal.pad32 b.1 = l1 at *
  generalize List.map Seal.pad32 q.1 = l2 at *
  have HB := fun w P Q hP hQ => citeBytes_calls ⟨fz, l1, p.1, l2, hd⟩ hok P Q w hP hQ
  have hbok := Seal.Ct.outB_ok ⟨fz, l1, p.1, l2, hd⟩
  have heok := Seal.Ct.outE_ok ⟨fz, l1, p.1, l2, hd⟩
  have heno := Seal.Ct.outE_no ⟨fz, l1, p.1, l2, hd⟩
  generalize Seal.Ct.outB ⟨fz, l1, p.1, l2, hd⟩ = ob at *
  generalize Seal.Ct.outE ⟨fz, l1, p.1, l2, hd⟩ = oe at *
  have P1 := Lib.hid HT1; have P2 := Lib.hid HL1; have P3 := Lib.hid HN; have P4 := Lib.hid HL2; have P5 := Lib.hid HT2; have P6 := Lib.hid HRf; have P7 := Lib.hid HRh; have P8 := Lib.hid HB
  have Hpost := Lib.hid hpost; have Hgood := Lib.hid hgood; have Hgd := Lib.hid hgd; have Hyes := Lib.hid hyes; have Hbok := Lib.hid hbok; have Heok := Lib.hid heok; have Heno := Lib.hid heno
  clear HT1 HL1 HN HL2 HT2 HRf HRh HB t1 t2 n1 n2 n3 n4 hpost hgood hgd hyes hok hbok heok heno
  go_enter Tryz.func13, Tryz.ntmps13
  go_wp2_with fail
  change Calls _ _ _ (w.alloc (.cells (citeC Seal.zF (.slice none 0 0) 0 (.slice none 0 0) Seal.zH).toArray 34)) _
  generalize w.alloc (.cells (citeC Seal.zF (.slice none 0 0) 0 (.slice none 0 0) Seal.zH).toArray 34) = w0 at *
  refine (Read_new s _).mono ?_; rintro e w1 ⟨g, rfl, hgB, hS, e1⟩
  replace hR := hR.ext e1
  have sz0 := e1.size
  replace hE := hE.trans e1
  clear e1
  have hgl := hS.lt
  go_wp2_with fail
  have e2 : Ext w1 (w1.alloc (.cells #[.pointer (some ⟨g, 0, none⟩)] 83)) := (Ext.refl w1).alloc _
  have hX : PtrAt (w1.alloc (.cells #[.pointer (some ⟨g, 0, none⟩)] 83)) w1.heap.size g := Blk.new w1 _ _
  obtain ⟨gx, gxe⟩ : ∃ gx, gx = w1.heap.size := ⟨_, rfl⟩
  rw [← gxe] at hX ⊢
  have gxb : g < gx := by omega
  clear gxe
  generalize w1.alloc (.cells #[.pointer (some ⟨g, 0, none⟩)] 83) = v0 at *
  replace hR := hR.ext e2
  replace hS := hS.ext e2
  have sz0 := e2.size
  replace hE := hE.trans e2
  clear e2
  refine (P1.out _ _ hS).mono ?_; rintro e v1 ⟨rfl, hS', hU'⟩
  replace hR := hR.updO hU' (by omega)
  replace hX := hX.updO hU' (by omega)
  have sz1 := hU'.size
  replace hE := Ext.upd hE hU' (show w.heap.size ≤ g by omega)
  clear hU'
  replace hS := hS'
  clear hS'
  go_wp2_with fail
  refine (P6.out _).mono ?_; rintro e v2 ⟨rfl, e3⟩
  replace hR := hR.ext e3
  replace hS := hS.ext e3
  replace hX := hX.ext e3
  have sz3 := e3.size
  replace hE := hE.trans e3
  clear e3
  unfold Seal.Fz.v
  go_wp2_with (refine stop_store 30 (.tmp 6) (.tmp 20) rfl ?_)
  refine ⟨?_⟩
  change wpList _ _ _ _ _ (v2.alloc (.cells Seal.zF.cells.toArray 30))
  have hF0 : Blk (v2.alloc (.cells Seal.zF.cells.toArray 30)) v2.heap.size 30 Seal.zF.cells.toArray := Blk.new v2 _ _
  have e6a := (Ext.refl v2).alloc (.cells Seal.zF.cells.toArray 30)
  obtain ⟨g5, g5e⟩ : ∃ g5, g5 = v2.heap.size := ⟨_, rfl⟩
  rw [← g5e] at hF0
  try rw [← g5e]
  have g5b : v2.heap.size ≤ g5 := by omega
  generalize v2.alloc (.cells Seal.zF.cells.toArray 30) = v4' at *
  refine wpList_store_row rfl 30 (.tmp 6) (.tmp 20) rfl g5 fz.cells.toArray (by rfl) (by rfl) 30 _ hF0 (Seal.size_fz fz f1) (by simp only [List.size_toArray]; rw [Seal.Fz.cells_length fz f1]; rfl) (all_oneCell_toArray (Seal.Fz.one fz)) ?_
  simp only [Act.put, List.setIfInBounds_toArray, List.set_cons_zero, List.set_cons_succ]
  have hF : FzAt (v4'.setRow g5 fz.cells.toArray) g5 fz := Blk.row hF0 _
  have e6 : Ext v2 (v4'.setRow g5 fz.cells.toArray) := e6a.row g5b _
  clear hF0 e6a g5e
  generalize v4'.setRow g5 fz.cells.toArray = v4 at *
  clear v4' 
  replace hR := hR.ext e6
  replace hS := hS.ext e6
  replace hX := hX.ext e6
  have sz6 := e6.size
  replace hE := hE.trans e6
  clear e6
  go_wp2_with (refine stop_load 30 (.tmp 6) rfl ?_)
  refine ⟨?_⟩
  refine wpList_load_row rfl 30 (.tmp 6) rfl g5 (by rfl) 30 _ (0, 0) _ hF Tryz.underlying30 rfl (Seal.size_fz fz f1) ?_
  simp only [Act.put, List.setIfInBounds_toArray, List.set_cons_zero, List.set_cons_succ]
  clear hF
  go_wp2_with (refine stop_at 23 rfl ?_)
  refine ⟨?_⟩
  refine wpList_build_to rfl 34 _ rfl _ (by rw [Array.toList_map]; rfl) _ (built_ct fz f1) ?_
  simp only [Act.put, List.setIfInBounds_toArray, List.set_cons_zero, List.set_cons_succ]
  have hXl := hX.lt
  go_wp2_with (refine stop_store 34 (.tmp 8) (.tmp 23) rfl ?_)
  refine ⟨?_⟩
  change wpList _ _ _ _ _ (v4.alloc (.cells (citeC Seal.zF (.slice none 0 0) 0 (.slice none 0 0) Seal.zH).toArray 34))
  have hC0 : Blk (v4.alloc (.cells (citeC Seal.zF (.slice none 0 0) 0 (.slice none 0 0) Seal.zH).toArray 34)) v4.heap.size 34 (citeC Seal.zF (.slice none 0 0) 0 (.slice none 0 0) Seal.zH).toArray := Blk.new v4 _ _
  have e9a := (Ext.refl v4).alloc (.cells (citeC Seal.zF (.slice none 0 0) 0 (.slice none 0 0) Seal.zH).toArray 34)
  obtain ⟨g8, g8e⟩ : ∃ g8, g8 = v4.heap.size := ⟨_, rfl⟩
  rw [← g8e] at hC0
  try rw [← g8e]
  have g8b : v4.heap.size ≤ g8 := by omega
  generalize v4.alloc (.cells (citeC Seal.zF (.slice none 0 0) 0 (.slice none 0 0) Seal.zH).toArray 34) = v7' at *
  refine wpList_store_row rfl 34 (.tmp 8) (.tmp 23) rfl g8 (citeC fz (.slice none 0 0) 0 (.slice none 0 0) Seal.zH).toArray (by rfl) (by rfl) 34 _ hC0 (size_ct f1 (by rfl) (by rfl)) (by simp only [List.size_toArray]; rw [citeC_length f1 (by rfl) (by rfl)]; rfl) (all_oneCell_toArray (citeC_one (by rfl) (by rfl))) ?_
  simp only [Act.put, List.setIfInBounds_toArray, List.set_cons_zero, List.set_cons_succ]
  have hC : CiteAt (v7'.setRow g8 (citeC fz (.slice none 0 0) 0 (.slice none 0 0) Seal.zH).toArray) g8 fz (.slice none 0 0) 0 (.slice none 0 0) Seal.zH := Blk.row hC0 _
  have e9 : Ext v4 (v7'.setRow g8 (citeC fz (.slice none 0 0) 0 (.slice none 0 0) Seal.zH).toArray) := e9a.row g8b _
  clear hC0 e9a g8e
  generalize v7'.setRow g8 (citeC fz (.slice none 0 0) 0 (.slice none 0 0) Seal.zH).toArray = v7 at *
  clear v7' 
  replace hR := hR.ext e9
  replace hS := hS.ext e9
  replace hX := hX.ext e9
  have sz9 := e9.size
  replace hE := hE.trans e9
  clear e9
  have hCl := hC.lt
  have hxc : gx < g8 := by omega
  clear hXl
  go_wp2_with fail
  refine (P2.out _ _ _ hS hX).mono ?_; rintro e v10 ⟨hS', ⟨hp, hpB, rfl, hpb, hpO⟩, hU'⟩
  replace hR := hR.updO hU' (by omega)
  replace hX := hX.updO hU' (by omega)
  replace hC := hC.updO hU' (by omega)
  have sz10 := hU'.size
  replace hE := Ext.upd hE hU' (show w.heap.size ≤ g by omega)
  clear hU'
  replace hS := hS'
  clear hS'
  obtain ⟨Ahp, chp, rfl⟩ : ∃ A c, hp = .slice A l1.length c := by
    obtain ⟨A, c, e, _⟩ := hpO
    exact ⟨A, c, e⟩
  have fz0 := Blk.frozen hC 34
  have cc0 := hC.path f1 0 _ rfl
  have lt0 := hC.lt
  have hUc : Upd g8 v10 (v10.setCell ⟨g8, 34, none⟩ (.slice Ahp l1.length chp)) := (Upd.refl g8 v10).setCell (p := ⟨g8, 34, none⟩) (.inl rfl) _
  have cx := (hX.updO hUc (by omega)).c
  go_wp2_with fail
  clear fz0 cc0 lt0
  try clear cx
  replace hR := hR.updO hUc (by omega)
  replace hS := hS.updO hUc (by omega)
  replace hX := hX.updO hUc (by omega)
  replace hC := hC.setPath f1 (.slice Ahp l1.length chp)
  replace hpO := hpO.updO hUc (by omega)
  have sz11 := hUc.size
  replace hE := Ext.upd hE hUc (show w.heap.size ≤ g8 by omega)
  clear hUc
  generalize (v10.setCell ⟨g8, 34, none⟩ (.slice Ahp l1.length chp)) = v11 at *
  refine (P3.out _ _ hS).mono ?_; rintro e v12 ⟨rfl, hS', hU'⟩
  replace hR := hR.updO hU' (by omega)
  replace hX := hX.updO hU' (by omega)
  replace hC := hC.updO hU' (by omega)
  replace hpO := hpO.updO hU' (by omega)
  have sz12 := hU'.size
  replace hE := Ext.upd hE hU' (show w.heap.size ≤ g by omega)
  clear hU'
  replace hS := hS'
  clear hS'
  have fz0 := Blk.frozen hC 35
  have cc0 := hC.place f1 0 _ rfl
  have lt0 := hC.lt
  have hUc : Upd g8 v12 (v12.setCell ⟨g8, 35, none⟩ (.int .i64 p.1)) := (Upd.refl g8 v12).setCell (p := ⟨g8, 35, none⟩) (.inl rfl) _
  have cx := (hX.updO hUc (by omega)).c
  go_wp2_with fail
  clear fz0 cc0 lt0
  try clear cx
  replace hR := hR.updO hUc (by omega)
  replace hS := hS.updO hUc (by omega)
  replace hX := hX.updO hUc (by omega)
  replace hC := hC.setPlace f1 p.1
  replace hpO := hpO.updO hUc (by omega)
  have sz13 := hUc.size
  replace hE := Ext.upd hE hUc (show w.heap.size ≤ g8 by omega)
  clear hUc
  generalize (v12.setCell ⟨g8, 35, none⟩ (.int .i64 p.1)) = v13 at *
  refine (P4.out _ _ _ hS hX).mono ?_; rintro e v14 ⟨hS', ⟨hq, hqB, rfl, hqb, hqO⟩, hU'⟩
  replace hR := hR.updO hU' (by omega)
  replace hX := hX.updO hU' (by omega)
  replace hC := hC.updO hU' (by omega)
  replace hpO := hpO.updO hU' (by omega)
  have sz14 := hU'.size
  replace hE := Ext.upd hE hU' (show w.heap.size ≤ g by omega)
  clear hU'
  replace hS := hS'
  clear hS'
  obtain ⟨Ahq, chq, rfl⟩ : ∃ A c, hq = .slice A l2.length c := by
    obtain ⟨A, c, e, _⟩ := hqO
    exact ⟨A, c, e⟩
  have fz0 := Blk.frozen hC 36
  have cc0 := hC.super f1 0 _ rfl
  have lt0 := hC.lt
  have hUc : Upd g8 v14 (v14.setCell ⟨g8, 36, none⟩ (.slice Ahq l2.length chq)) := (Upd.refl g8 v14).setCell (p := ⟨g8, 36, none⟩) (.inl rfl) _
  have cx := (hX.updO hUc (by omega)).c
  go_wp2_with fail
  clear fz0 cc0 lt0
  try clear cx
  replace hR := hR.updO hUc (by omega)
  replace hS := hS.updO hUc (by omega)
  replace hX := hX.updO hUc (by omega)
  replace hC := hC.setSuper f1 (.slice Ahq l2.length chq)
  replace hpO := hpO.updO hUc (by omega)
  replace hqO := hqO.updO hUc (by omega)
  have sz15 := hUc.size
  replace hE := Ext.upd hE hUc (show w.heap.size ≤ g8 by omega)
  clear hUc
  generalize (v14.setCell ⟨g8, 36, none⟩ (.slice Ahq l2.length chq)) = v15 at *
  refine (P5.out _ _ hS).mono ?_; rintro e v16 ⟨rfl, hS', hU'⟩
  replace hR := hR.updO hU' (by omega)
  replace hX := hX.updO hU' (by omega)
  replace hC := hC.updO hU' (by omega)
  replace hpO := hpO.updO hU' (by omega)
  replace hqO := hqO.updO hU' (by omega)
  have sz16 := hU'.size
  replace hE := Ext.upd hE hU' (show w.heap.size ≤ g by omega)
  clear hU'
  replace hS := hS'
  clear hS'
  go_wp2_with fail
  refine (P7.out _).mono ?_; rintro e v17 ⟨rfl, e18⟩
  replace hR := hR.ext e18
  replace hS := hS.ext e18
  replace hX := hX.ext e18
  replace hC := hC.ext e18
  replace hpO := hpO.ext e18
  replace hqO := hqO.ext e18
  have sz18 := e18.size
  replace hE := hE.trans e18
  clear e18
  unfold Seal.Hd.v
  go_wp2_with (refine stop_store 32 (.tmp 9) (.tmp 37) rfl ?_)
  refine ⟨?_⟩
  change wpList _ _ _ _ _ (v17.alloc (.cells Seal.zH.cells.toArray 32))
  have hH0 : Blk (v17.alloc (.cells Seal.zH.cells.toArray 32)) v17.heap.size 32 Seal.zH.cells.toArray := Blk.new v17 _ _
  have e21a := (Ext.refl v17).alloc (.cells Seal.zH.cells.toArray 32)
  obtain ⟨g20, g20e⟩ : ∃ g20, g20 = v17.heap.size := ⟨_, rfl⟩
  rw [← g20e] at hH0
  try rw [← g20e]
  have g20b : v17.heap.size ≤ g20 := by omega
  generalize v17.alloc (.cells Seal.zH.cells.toArray 32) = v19' at *
  refine wpList_store_row rfl 32 (.tmp 9) (.tmp 37) rfl g20 hd.cells.toArray (by rfl) (by rfl) 32 _ hH0 (Seal.size_hd hd h1 h2) (by simp only [List.size_toArray]; rw [Seal.Hd.cells_length hd h1 h2]; rfl) (all_oneCell_toArray (Seal.Hd.one hd)) ?_
  simp only [Act.put, List.setIfInBounds_toArray, List.set_cons_zero, List.set_cons_succ]
  have hH : HdAt (v19'.setRow g20 hd.cells.toArray) g20 hd := Blk.row hH0 _
  have e21 : Ext v17 (v19'.setRow g20 hd.cells.toArray) := e21a.row g20b _
  clear hH0 e21a g20e
  generalize v19'.setRow g20 hd.cells.toArray = v19 at *
  clear v19' 
  replace hR := hR.ext e21
  replace hS := hS.ext e21
  replace hX := hX.ext e21
  replace hC := hC.ext e21
  replace hpO := hpO.ext e21
  replace hqO := hqO.ext e21
  have sz21 := e21.size
  replace hE := hE.trans e21
  clear e21
  go_wp2_with (refine stop_load 32 (.tmp 9) rfl ?_)
  refine ⟨?_⟩
  refine wpList_load_row rfl 32 (.tmp 9) rfl g20 (by rfl) 32 _ (0, 0) _ hH Tryz.underlying32 rfl (Seal.size_hd hd h1 h2) ?_
  simp only [Act.put, List.setIfInBounds_toArray, List.set_cons_zero, List.set_cons_succ]
  clear hH
  go_wp2_with (refine stop_store 32 (.tmp 40) (.tmp 39) rfl ?_)
  refine ⟨?_⟩
  have hth : v19.there g8 37 hd.cells.toArray.size := Blk.there hC 37 _ (by rw [citeC_length f1 (by rfl) (by rfl), List.size_toArray, Seal.Hd.cells_length hd h1 h2]; omega)
  refine wpList_store_mid rfl 32 (.tmp 40) (.tmp 39) rfl g8 37 _ (by rfl) (by rfl) hth (Seal.size_hd hd h1 h2) (all_oneCell_toArray (Seal.Hd.one hd)) ?_
  simp only [Act.put, List.setIfInBounds_toArray, List.set_cons_zero, List.set_cons_succ]
  clear hth
  have hUc : Upd g8 v19 (v19.setCells g8 37 hd.cells.toArray.toList) := upd_self _ _ _ (Upd.refl g8 v19)
  replace hR := hR.updO hUc (by omega)
  replace hS := hS.updO hUc (by omega)
  replace hX := hX.updO hUc (by omega)
  replace hC := hC.setHead f1 (by rfl) (by rfl) hd h1 h2
  replace hpO := hpO.updO hUc (by omega)
  replace hqO := hqO.updO hUc (by omega)
  have sz22 := hUc.size
  replace hE := Ext.upd hE hUc (show w.heap.size ≤ g8 by omega)
  clear hUc
  generalize (v19.setCells g8 37 hd.cells.toArray.toList) = v22 at *
  go_wp2_with (refine stop_load 34 (.tmp 8) rfl ?_)
  refine ⟨?_⟩
  refine wpList_load_row rfl 34 (.tmp 8) rfl g8 (by rfl) 34 _ (0, 0) _ hC Tryz.underlying34 rfl (size_ct f1 h1 h2) ?_
  simp only [Act.put, List.setIfInBounds_toArray, List.set_cons_zero, List.set_cons_succ]
  have hpS := hpO.sl
  have hqS := hqO.sl
  go_wp2_with fail
  change Calls _ _ #[citeV fz (.slice Ahp l1.length chp) p.1 (.slice Ahq l2.length chq) hd] _ _
  refine (P8.out _ (.slice Ahp l1.length chp) (.slice Ahq l2.length chq) hpS hqS).mono ?_; rintro e v23 ⟨rfl, e24⟩
  replace hR := hR.ext e24
  replace hS := hS.ext e24
  replace hX := hX.ext e24
  replace hC := hC.ext e24
  replace hpO := hpO.ext e24
  replace hqO := hqO.ext e24
  have sz24 := e24.size
  replace hE := hE.trans e24
  clear e24
  clear hpS hqS
  have cx := hX.c
  go_wp2_with fail
  refine (End_calls g r.2 _ hS).mono ?_; rintro e w' ⟨rfl, rfl⟩
  try clear cx
  have hgw : w.heap.size < g := by omega
  by_cases c1 : r.2.endE = 0
  case neg =>
    have hno : ¬ Seal.Ct.good s := fun h => c1 (Hgd.out.1 h).1
    have hrC : Seal.Ct.readC s = ⟨Seal.zF, [], 0, [], Seal.zH⟩ := Seal.Ct.readC_no s hno
    have hrE : Seal.Ct.readE s = 10 := Seal.Ct.readE_no s hno
    have HrC := Lib.hid hrC; have HrE := Lib.hid hrE
    clear hno hrC hrE
    have b1 : (r.2.endE != 0) = true := by simpa using c1
    clear c1
    go_wp2_with (refine stop_at 66 rfl ?_)
    refine ⟨?_⟩
    refine wpList_build_to rfl 34 _ rfl _ (by rw [Array.toList_map]; rfl) _ built_ct0 ?_
    simp only [Act.put, List.setIfInBounds_toArray, List.set_cons_zero, List.set_cons_succ]
    go_wp2_with (refine stop_store 34 (.tmp 2) (.tmp 66) rfl ?_)
    refine ⟨?_⟩
    refine wpList_store_row rfl 34 (.tmp 2) (.tmp 66) rfl w.heap.size (citeC Seal.zF (.slice none 0 0) 0 (.slice none 0 0) Seal.zH).toArray (by rfl) (by rfl) 34 _ hR (size_ct (by rfl) (by rfl) (by rfl)) (by simp only [List.size_toArray] <;> (try (rw [citeC_length (by rfl) (by rfl) (by rfl)] <;> (try rfl)))) (all_oneCell_toArray (citeC_one (by rfl) (by rfl))) ?_
    simp only [Act.put, List.setIfInBounds_toArray, List.set_cons_zero, List.set_cons_succ]
    go_wp2_with fail
    (try simp only [Exit.inBlock, Exit.then])
    refine bodyPost_ret (res_two rfl _ _ w.heap.size 34 (citeC Seal.zF (.slice none 0 0) 0 (.slice none 0 0) Seal.zH).toArray _ rfl (Blk.row hR (citeC Seal.zF (.slice none 0 0) 0 (.slice none 0 0) Seal.zH).toArray) Tryz.underlying34 rfl (size_ct (by rfl) (by rfl) (by rfl))) rfl ?_
    rw [Hpost.out]
    rw [HrC.out, HrE.out]
    exact ⟨_, _, rfl, slsZero _, slsZero _, hE.row (Nat.le_refl _) _⟩
  have b1 : (r.2.endE != 0) = false := by simp [c1]
  by_cases c2 : fe = 0
  case neg =>
    have hno : ¬ Seal.Ct.good s := fun h => c2 (Hgood.out h).1
    have hrC : Seal.Ct.readC s = ⟨Seal.zF, [], 0, [], Seal.zH⟩ := Seal.Ct.readC_no s hno
    have hrE : Seal.Ct.readE s = 10 := Seal.Ct.readE_no s hno
    have HrC := Lib.hid hrC; have HrE := Lib.hid hrE
    clear hno hrC hrE
    have b2 : (fe != 0) = true := by simpa using c2
    clear c1 c2
    go_wp2_with (refine stop_at 66 rfl ?_)
    refine ⟨?_⟩
    refine wpList_build_to rfl 34 _ rfl _ (by rw [Array.toList_map]; rfl) _ built_ct0 ?_
    simp only [Act.put, List.setIfInBounds_toArray, List.set_cons_zero, List.set_cons_succ]
    go_wp2_with (refine stop_store 34 (.tmp 2) (.tmp 66) rfl ?_)
    refine ⟨?_⟩
    refine wpList_store_row rfl 34 (.tmp 2) (.tmp 66) rfl w.heap.size (citeC Seal.zF (.slice none 0 0) 0 (.slice none 0 0) Seal.zH).toArray (by rfl) (by rfl) 34 _ hR (size_ct (by rfl) (by rfl) (by rfl)) (by simp only [List.size_toArray] <;> (try (rw [citeC_length (by rfl) (by rfl) (by rfl)] <;> (try rfl)))) (all_oneCell_toArray (citeC_one (by rfl) (by rfl))) ?_
    simp only [Act.put, List.setIfInBounds_toArray, List.set_cons_zero, List.set_cons_succ]
    go_wp2_with fail
    (try simp only [Exit.inBlock, Exit.then])
    refine bodyPost_ret (res_two rfl _ _ w.heap.size 34 (citeC Seal.zF (.slice none 0 0) 0 (.slice none 0 0) Seal.zH).toArray _ rfl (Blk.row hR (citeC Seal.zF (.slice none 0 0) 0 (.slice none 0 0) Seal.zH).toArray) Tryz.underlying34 rfl (size_ct (by rfl) (by rfl) (by rfl))) rfl ?_
    rw [Hpost.out]
    rw [HrC.out, HrE.out]
    exact ⟨_, _, rfl, slsZero _, slsZero _, hE.row (Nat.le_refl _) _⟩
  have b2 : (fe != 0) = false := by simp [c2]
  by_cases c3 : he = 0
  case neg =>
    have hno : ¬ Seal.Ct.good s := fun h => c3 (Hgood.out h).2
    have hrC : Seal.Ct.readC s = ⟨Seal.zF, [], 0, [], Seal.zH⟩ := Seal.Ct.readC_no s hno
    have hrE : Seal.Ct.readE s = 10 := Seal.Ct.readE_no s hno
    have HrC := Lib.hid hrC; have HrE := Lib.hid hrE
    clear hno hrC hrE
    have b3 : (he != 0) = true := by simpa using c3
    clear c1 c2 c3
    go_wp2_with (refine stop_at 66 rfl ?_)
    refine ⟨?_⟩
    refine wpList_build_to rfl 34 _ rfl _ (by rw [Array.toList_map]; rfl) _ built_ct0 ?_
    simp only [Act.put, List.setIfInBounds_toArray, List.set_cons_zero, List.set_cons_succ]
    go_wp2_with (refine stop_store 34 (.tmp 2) (.tmp 66) rfl ?_)
    refine ⟨?_⟩
    refine wpList_store_row rfl 34 (.tmp 2) (.tmp 66) rfl w.heap.size (citeC Seal.zF (.slice none 0 0) 0 (.slice none 0 0) Seal.zH).toArray (by rfl) (by rfl) 34 _ hR (size_ct (by rfl) (by rfl) (by rfl)) (by simp only [List.size_toArray] <;> (try (rw [citeC_length (by rfl) (by rfl) (by rfl)] <;> (try rfl)))) (all_oneCell_toArray (citeC_one (by rfl) (by rfl))) ?_
    simp only [Act.put, List.setIfInBounds_toArray, List.set_cons_zero, List.set_cons_succ]
    go_wp2_with fail
    (try simp only [Exit.inBlock, Exit.then])
    refine bodyPost_ret (res_two rfl _ _ w.heap.size 34 (citeC Seal.zF (.slice none 0 0) 0 (.slice none 0 0) Seal.zH).toArray _ rfl (Blk.row hR (citeC Seal.zF (.slice none 0 0) 0 (.slice none 0 0) Seal.zH).toArray) Tryz.underlying34 rfl (size_ct (by rfl) (by rfl) (by rfl))) rfl ?_
    rw [Hpost.out]
    rw [HrC.out, HrE.out]
    exact ⟨_, _, rfl, slsZero _, slsZero _, hE.row (Nat.le_refl _) _⟩
  have b3 : (he != 0) = false := by simp [c3]
  by_cases c4 : Seal.Ct.may ⟨fz, l1, p.1, l2, hd⟩
  case neg =>
    have hno : ¬ Seal.Ct.good s := fun h => c4 (Hgd.out.1 h).2.1
    have hrC : Seal.Ct.readC s = ⟨Seal.zF, [], 0, [], Seal.zH⟩ := Seal.Ct.readC_no s hno
    have hrE : Seal.Ct.readE s = 10 := Seal.Ct.readE_no s hno
    have HrC := Lib.hid hrC; have HrE := Lib.hid hrE
    clear hno hrC hrE
    have b4 : (oe != 0) = true := by rw [Heno.out c4]; rfl
    clear c1 c2 c3 c4
    go_wp2_with (refine stop_at 66 rfl ?_)
    refine ⟨?_⟩
    refine wpList_build_to rfl 34 _ rfl _ (by rw [Array.toList_map]; rfl) _ built_ct0 ?_
    simp only [Act.put, List.setIfInBounds_toArray, List.set_cons_zero, List.set_cons_succ]
    go_wp2_with (refine stop_store 34 (.tmp 2) (.tmp 66) rfl ?_)
    refine ⟨?_⟩
    refine wpList_store_row rfl 34 (.tmp 2) (.tmp 66) rfl w.heap.size (citeC Seal.zF (.slice none 0 0) 0 (.slice none 0 0) Seal.zH).toArray (by rfl) (by rfl) 34 _ hR (size_ct (by rfl) (by rfl) (by rfl)) (by simp only [List.size_toArray] <;> (try (rw [citeC_length (by rfl) (by rfl) (by rfl)] <;> (try rfl)))) (all_oneCell_toArray (citeC_one (by rfl) (by rfl))) ?_
    simp only [Act.put, List.setIfInBounds_toArray, List.set_cons_zero, List.set_cons_succ]
    go_wp2_with fail
    (try simp only [Exit.inBlock, Exit.then])
    refine bodyPost_ret (res_two rfl _ _ w.heap.size 34 (citeC Seal.zF (.slice none 0 0) 0 (.slice none 0 0) Seal.zH).toArray _ rfl (Blk.row hR (citeC Seal.zF (.slice none 0 0) 0 (.slice none 0 0) Seal.zH).toArray) Tryz.underlying34 rfl (size_ct (by rfl) (by rfl) (by rfl))) rfl ?_
    rw [Hpost.out]
    rw [HrC.out, HrE.out]
    exact ⟨_, _, rfl, slsZero _, slsZero _, hE.row (Nat.le_refl _) _⟩
  have b4 : (oe != 0) = false := by rw [Heok.out c4]; rfl
  have hob := Hbok.out c4
  by_cases c5 : Seal.Ct.bytes ⟨fz, l1, p.1, l2, hd⟩ = s
  case neg =>
    have hno : ¬ Seal.Ct.good s := fun h => c5 (Hgd.out.1 h).2.2
    have hrC : Seal.Ct.readC s = ⟨Seal.zF, [], 0, [], Seal.zH⟩ := Seal.Ct.readC_no s hno
    have hrE : Seal.Ct.readE s = 10 := Seal.Ct.readE_no s hno
    have HrC := Lib.hid hrC; have HrE := Lib.hid hrE
    clear hno hrC hrE
    have b5 : (ob != s) = true := by rw [hob]; simpa using c5
    have b6 : (ob == s) = false := by rw [hob]; simpa using c5
    clear c1 c2 c3 c4 c5 hob
    go_wp2_with (refine stop_at 66 rfl ?_)
    refine ⟨?_⟩
    refine wpList_build_to rfl 34 _ rfl _ (by rw [Array.toList_map]; rfl) _ built_ct0 ?_
    simp only [Act.put, List.setIfInBounds_toArray, List.set_cons_zero, List.set_cons_succ]
    go_wp2_with (refine stop_store 34 (.tmp 2) (.tmp 66) rfl ?_)
    refine ⟨?_⟩
    refine wpList_store_row rfl 34 (.tmp 2) (.tmp 66) rfl w.heap.size (citeC Seal.zF (.slice none 0 0) 0 (.slice none 0 0) Seal.zH).toArray (by rfl) (by rfl) 34 _ hR (size_ct (by rfl) (by rfl) (by rfl)) (by simp only [List.size_toArray] <;> (try (rw [citeC_length (by rfl) (by rfl) (by rfl)] <;> (try rfl)))) (all_oneCell_toArray (citeC_one (by rfl) (by rfl))) ?_
    simp only [Act.put, List.setIfInBounds_toArray, List.set_cons_zero, List.set_cons_succ]
    go_wp2_with fail
    (try simp only [Exit.inBlock, Exit.then])
    refine bodyPost_ret (res_two rfl _ _ w.heap.size 34 (citeC Seal.zF (.slice none 0 0) 0 (.slice none 0 0) Seal.zH).toArray _ rfl (Blk.row hR (citeC Seal.zF (.slice none 0 0) 0 (.slice none 0 0) Seal.zH).toArray) Tryz.underlying34 rfl (size_ct (by rfl) (by rfl) (by rfl))) rfl ?_
    rw [Hpost.out]
    rw [HrC.out, HrE.out]
    exact ⟨_, _, rfl, slsZero _, slsZero _, hE.row (Nat.le_refl _) _⟩
  have b5 : (ob != s) = false := by rw [hob]; simpa using c5
  have b6 : (ob == s) = true := by rw [hob]; simpa using c5
  have hgo := Hgd.out.2 ⟨c1, c4, c5⟩
  have hrC := Hyes.out hgo
  have hrE := Seal.Ct.readE_yes s hgo
  have HrC := Lib.hid hrC; have HrE := Lib.hid hrE
  clear c1 c2 c3 c4 c5 hob hgo hrC hrE
  go_wp2_with (refine stop_load 34 (.tmp 8) rfl ?_)
  refine ⟨?_⟩
  refine wpList_load_row rfl 34 (.tmp 8) rfl g8 (by rfl) 34 _ (0, 0) _ hC Tryz.underlying34 rfl (size_ct f1 h1 h2) ?_
  simp only [Act.put, List.setIfInBounds_toArray, List.set_cons_zero, List.set_cons_succ]
  go_wp2_with (refine stop_store 34 (.tmp 2) (.tmp 67) rfl ?_)
  refine ⟨?_⟩
  refine wpList_store_row rfl 34 (.tmp 2) (.tmp 67) rfl w.heap.size (citeC fz (.slice Ahp l1.length chp) p.1 (.slice Ahq l2.length chq) hd).toArray (by rfl) (by rfl) 34 _ hR (size_ct f1 h1 h2) (by simp only [List.size_toArray] <;> (try (rw [citeC_length f1 h1 h2] <;> (try rfl)))) (all_oneCell_toArray (citeC_one hpO.oneCell hqO.oneCell)) ?_
  simp only [Act.put, List.setIfInBounds_toArray, List.set_cons_zero, List.set_cons_succ]
  go_wp2_with fail
  (try simp only [Exit.inBlock, Exit.then])
  refine bodyPost_ret (res_two rfl _ _ w.heap.size 34 (citeC fz (.slice Ahp l1.length chp) p.1 (.slice Ahq l2.length chq) hd).toArray _ rfl (Blk.row hR (citeC fz (.slice Ahp l1.length chp) p.1 (.slice Ahq l2.length chq) hd).toArray) Tryz.underlying34 rfl (size_ct f1 h1 h2)) rfl ?_
  rw [Hpost.out]
  rw [HrC.out, HrE.out]
  have hE2 := hE.row (show w.heap.size ≤ w.heap.size from Nat.le_refl _) (citeC fz (.slice Ahp l1.length chp) p.1 (.slice Ahq l2.length chq) hd).toArray
  exact ⟨(.slice Ahp l1.length chp), (.slice Ahq l2.length chq), rfl, (hpO.updO (updRow _ _ _) (by omega)).sl, (hqO.updO (updRow _ _ _) (by omega)).sl, hE2⟩

end Go.Proofs.YtcgnjdkennkheaaGreatDoor

namespace Go.Proofs.YtcgnjdkennkheaaGreatDoor
open Go.RowKit
open Seal (Fz Hd St Ct)
attribute [local go_sem] bs_size bs_toList2 bs_append bs_extract_end bs_extract_begin bs_get wrap64_b

theorem sumsR_left_le (x : Oct.Sc) : (Seal.sumsR x).2.left.length ≤ x.left.length := by
  have h := Oct.list_left_le x 64
  unfold Seal.sumsR
  split
  · exact h
  · simpa [Oct.Sc.bad] using h
namespace Seal.Ct
theorem parts_yes (s : List UInt8) (h : (parseR s).1.endE = 0) (hf : Seal.errOf (Fz.read (parseR s).2.1) = 0) (hh : Seal.errOf (Hd.read (parseR s).2.2.2.2.2) = 0) :
    readC s = ⟨(Fz.read (parseR s).2.1).getD Seal.zF, (parseR s).2.2.1, (parseR s).2.2.2.1, (parseR s).2.2.2.2.1, (Hd.read (parseR s).2.2.2.2.2).getD Seal.zH⟩ ∧ readE s = 0 := by
  unfold readC readE
  rw [← readR_eq]
  unfold readR
  cases h1 : Fz.read (parseR s).2.1 with
  | none => rw [h1] at hf; cases hf
  | some f =>
    cases h2 : Hd.read (parseR s).2.2.2.2.2 with
    | none => rw [h2] at hh; cases hh
    | some g =>
      simp only [h, if_true, Option.getD_some, Option.isSome_some]
      exact ⟨trivial, trivial⟩
theorem parts_no (s : List UInt8) (h : (parseR s).1.endE ≠ 0 ∨ Seal.errOf (Fz.read (parseR s).2.1) ≠ 0 ∨ Seal.errOf (Hd.read (parseR s).2.2.2.2.2) ≠ 0) :
    readC s = ⟨Seal.zF, [], 0, [], Seal.zH⟩ ∧ readE s = 10 := by
  unfold readC readE
  rw [← readR_eq]
  unfold readR
  cases h1 : Fz.read (parseR s).2.1 with
  | none => exact ⟨rfl, rfl⟩
  | some f =>
    cases h2 : Hd.read (parseR s).2.2.2.2.2 with
    | none => exact ⟨rfl, rfl⟩
    | some g =>
      rw [h1, h2] at h
      have h' : (parseR s).1.endE ≠ 0 := by
        rcases h with h | h | h
        · exact h
        · exact absurd rfl h
        · exact absurd rfl h
      simp only [h', if_false]
      exact ⟨rfl, rfl⟩
end Seal.Ct

end Go.Proofs.YtcgnjdkennkheaaGreatDoor

namespace Go.Proofs.YtcgnjdkennkheaaGreatDoor
open Go.RowKit
open Seal (Fz Hd St Ct)
attribute [local go_sem] bs_size bs_toList2 bs_append bs_extract_end bs_extract_begin bs_get wrap64_b

theorem sls_take70 {w : World} {b off cap : Nat} {l : List (List UInt8)} (hl : AllH l) (hc : l.length ≤ cap) (hc63 : cap ≤ 9223372036854775807) {T : Nat} (hr : Rd w T (some ⟨b, off, none⟩) (flatS l)) (h : 70 ≤ l.length) : SlS w T (.slice (some ⟨b, off, none⟩) 70 cap) (l.take 70) := by
  have := sls_take hl hc hc63 hr 70 h
  exact this

/-- A cite cut: at most 70 hashes in a list. -/
def cut70 (c : Ct) : Ct := ⟨c.fz, c.path.take 70, c.place, c.super.take 70, c.hd⟩
theorem cut70_ok (c : Ct) (h : c.ok) : (cut70 c).ok := ⟨h.1, h.2.1, h.2.2.1, fun t ht => h.2.2.2.1 t (List.mem_of_mem_take ht), fun t ht => h.2.2.2.2 t (List.mem_of_mem_take ht)⟩
set_option maxHeartbeats 4000000 in
theorem small19_calls (c : Ct) (hc : c.ok) (p q : Value) (w : World) (T : Nat) (hT : T ≤ w.heap.size) (hp : SlS w T p c.path) (hq : SlS w T q c.super) :
    Calls Tryz.prog 18 #[citeV c.fz p c.place q c.hd] w fun e w' => ∃ P Q, e = .returned (citeV (cut70 c).fz P (cut70 c).place Q (cut70 c).hd) ∧ SlS w' T P (cut70 c).path ∧ SlS w' T Q (cut70 c).super ∧ Ext w w' := by
  obtain ⟨r1, r2, r3, r4, r5⟩ := hc
  have hp0 := hp
  have hq0 := hq
  obtain ⟨A, ca, rfl, hA, hca, hca63, hra⟩ := hp
  obtain ⟨B, cb, rfl, hBB, hcb, hcb63, hrb⟩ := hq
  unfold cut70
  by_cases hcp : 70 < c.path.length
  · by_cases hcs : 70 < c.super.length
    · skip
      rcases hA with ⟨_, hl0, _⟩ | ⟨b, off, rfl⟩
      · exact absurd hl0 (by intro e; rw [e] at hcp; simp at hcp)
      have i1 : (70 : Int) < (c.path.length : Int) := by omega
      have k1 : 70 ≤ ca := by omega
      have k2 : (70 : Int) ≤ (ca : Int) := by omega
      have hP := sls_take70 r4 hca hca63 hra (by omega)
      rcases hBB with ⟨_, hl0, _⟩ | ⟨b', off', rfl⟩
      · exact absurd hl0 (by intro e; rw [e] at hcs; simp at hcs)
      have i2 : (70 : Int) < (c.super.length : Int) := by omega
      have k3 : 70 ≤ cb := by omega
      have k4 : (70 : Int) ≤ (cb : Int) := by omega
      have hQ := sls_take70 r5 hcb hcb63 hrb (by omega)
      clear hcp hcs hra hrb hp0 hq0
      have hE : Ext w ((w.alloc (.cells (citeC c.fz (.slice (some ⟨b, off, none⟩) c.path.length ca) c.place (.slice (some ⟨b', off', none⟩) c.super.length cb) c.hd).toArray 34)).alloc (.cells Tryz.zeroCells34 34)) := ((Ext.refl w).alloc _).alloc _
      have h0 : CiteAt ((w.alloc (.cells (citeC c.fz (.slice (some ⟨b, off, none⟩) c.path.length ca) c.place (.slice (some ⟨b', off', none⟩) c.super.length cb) c.hd).toArray 34)).alloc (.cells Tryz.zeroCells34 34)) w.heap.size c.fz (.slice (some ⟨b, off, none⟩) c.path.length ca) c.place (.slice (some ⟨b', off', none⟩) c.super.length cb) c.hd := CiteAt.ext (Blk.new w 34 _) ((Ext.refl _).alloc _)
      have hR : CiteAt ((w.alloc (.cells (citeC c.fz (.slice (some ⟨b, off, none⟩) c.path.length ca) c.place (.slice (some ⟨b', off', none⟩) c.super.length cb) c.hd).toArray 34)).alloc (.cells Tryz.zeroCells34 34)) (w.heap.size + 1) Seal.zF (.slice none 0 0) 0 (.slice none 0 0) Seal.zH := by
        have := Blk.new (w.alloc (.cells (citeC c.fz (.slice (some ⟨b, off, none⟩) c.path.length ca) c.place (.slice (some ⟨b', off', none⟩) c.super.length cb) c.hd).toArray 34)) 34 Tryz.zeroCells34
        rw [alloc_size] at this
        exact this
      obtain ⟨w0, hw0⟩ : ∃ w0, ((w.alloc (.cells (citeC c.fz (.slice (some ⟨b, off, none⟩) c.path.length ca) c.place (.slice (some ⟨b', off', none⟩) c.super.length cb) c.hd).toArray 34)).alloc (.cells Tryz.zeroCells34 34)) = w0 := ⟨_, rfl⟩
      rw [hw0] at hE h0 hR
      have lt0 := h0.lt
      have cpa := h0.path r1 0 _ rfl
      have csu := h0.super r1 0 _ rfl
      have fz34 := Blk.frozen h0 34
      have fz36 := Blk.frozen h0 36
      unfold citeV
      go_enter Tryz.func18, Tryz.ntmps18
      have h1 := h0.setPath r1 (.slice (some ⟨b, off, none⟩) 70 ca)
      have csu1 := h1.super r1 0 _ rfl
      have cpa1 := h1.path r1 0 _ rfl
      have fr36 := Blk.frozen h1 36
      have hR1 := hR.updO ((Upd.refl w.heap.size w0).setCell (p := ⟨w.heap.size, 34, none⟩) (.inl rfl) (.slice (some ⟨b, off, none⟩) 70 ca)) (by omega)
      have hE1 : Ext w (w0.setCell ⟨w.heap.size, 34, none⟩ (.slice (some ⟨b, off, none⟩) 70 ca)) := hE.setCell (p := ⟨w.heap.size, 34, none⟩) (Nat.le_refl _) _
      have lt1 := h1.lt
      have h2 := h1.setSuper r1 (.slice (some ⟨b', off', none⟩) 70 cb)
      have hR2 := hR1.updO ((Upd.refl w.heap.size (w0.setCell ⟨w.heap.size, 34, none⟩ (.slice (some ⟨b, off, none⟩) 70 ca))).setCell (p := ⟨w.heap.size, 36, none⟩) (.inl rfl) (.slice (some ⟨b', off', none⟩) 70 cb)) (by omega)
      have hE2 : Ext w ((w0.setCell ⟨w.heap.size, 34, none⟩ (.slice (some ⟨b, off, none⟩) 70 ca)).setCell ⟨w.heap.size, 36, none⟩ (.slice (some ⟨b', off', none⟩) 70 cb)) := hE1.setCell (p := ⟨w.heap.size, 36, none⟩) (Nat.le_refl _) _
      go_wp2_with (refine stop_load 34 (.tmp 1) rfl ?_)
      refine ⟨?_⟩
      change wpList _ _ _ _ _ ((w0.setCell ⟨w.heap.size, 34, none⟩ (.slice (some ⟨b, off, none⟩) 70 ca)).setCell ⟨w.heap.size, 36, none⟩ (.slice (some ⟨b', off', none⟩) 70 cb))
      generalize ((w0.setCell ⟨w.heap.size, 34, none⟩ (.slice (some ⟨b, off, none⟩) 70 ca)).setCell ⟨w.heap.size, 36, none⟩ (.slice (some ⟨b', off', none⟩) 70 cb)) = w9 at *
      refine wpList_load_row rfl 34 (.tmp 1) rfl w.heap.size (by rfl) 34 _ (0, 0) _ h2 Tryz.underlying34 rfl (size_ct r1 r2 r3) ?_
      simp only [Act.put, List.setIfInBounds_toArray, List.set_cons_zero, List.set_cons_succ]
      go_wp2_with (refine stop_store 34 (.tmp 2) (.tmp 19) rfl ?_)
      refine ⟨?_⟩
      refine wpList_store_row rfl 34 (.tmp 2) (.tmp 19) rfl (w.heap.size + 1) (citeC c.fz (.slice (some ⟨b, off, none⟩) 70 ca) c.place (.slice (some ⟨b', off', none⟩) 70 cb) c.hd).toArray (by rfl) (by rfl) 34 _ hR2 (size_ct r1 r2 r3) (by simp only [List.size_toArray]; rw [citeC_length r1 r2 r3]; rfl) (all_oneCell_toArray (citeC_one (by rfl) (by rfl))) ?_
      simp only [Act.put, List.setIfInBounds_toArray, List.set_cons_zero, List.set_cons_succ]
      go_wp2_with fail
      (try simp only [Exit.inBlock, Exit.then])
      exact bodyPost_ret (results_cell_row rfl _ _ (w.heap.size + 1) 34 _ (0, 0) _ rfl (Blk.row hR2 (citeC c.fz (.slice (some ⟨b, off, none⟩) 70 ca) c.place (.slice (some ⟨b', off', none⟩) 70 cb) c.hd).toArray) Tryz.underlying34 rfl (size_ct r1 r2 r3)) rfl ⟨_, _, rfl, hP.below (hE2.row (Nat.le_succ _) _) hT, hQ.below (hE2.row (Nat.le_succ _) _) hT, hE2.row (Nat.le_succ _) _⟩
    · skip
      rcases hA with ⟨_, hl0, _⟩ | ⟨b, off, rfl⟩
      · exact absurd hl0 (by intro e; rw [e] at hcp; simp at hcp)
      have i1 : (70 : Int) < (c.path.length : Int) := by omega
      have k1 : 70 ≤ ca := by omega
      have k2 : (70 : Int) ≤ (ca : Int) := by omega
      have hP := sls_take70 r4 hca hca63 hra (by omega)
      have i2 : ¬ (70 : Int) < (c.super.length : Int) := by omega
      have hQ : SlS w T (.slice B c.super.length cb) (c.super.take 70) := by rw [List.take_of_length_le (by omega)]; exact hq0
      clear hcp hcs hra hrb hBB hp0 hq0
      have hE : Ext w ((w.alloc (.cells (citeC c.fz (.slice (some ⟨b, off, none⟩) c.path.length ca) c.place (.slice B c.super.length cb) c.hd).toArray 34)).alloc (.cells Tryz.zeroCells34 34)) := ((Ext.refl w).alloc _).alloc _
      have h0 : CiteAt ((w.alloc (.cells (citeC c.fz (.slice (some ⟨b, off, none⟩) c.path.length ca) c.place (.slice B c.super.length cb) c.hd).toArray 34)).alloc (.cells Tryz.zeroCells34 34)) w.heap.size c.fz (.slice (some ⟨b, off, none⟩) c.path.length ca) c.place (.slice B c.super.length cb) c.hd := CiteAt.ext (Blk.new w 34 _) ((Ext.refl _).alloc _)
      have hR : CiteAt ((w.alloc (.cells (citeC c.fz (.slice (some ⟨b, off, none⟩) c.path.length ca) c.place (.slice B c.super.length cb) c.hd).toArray 34)).alloc (.cells Tryz.zeroCells34 34)) (w.heap.size + 1) Seal.zF (.slice none 0 0) 0 (.slice none 0 0) Seal.zH := by
        have := Blk.new (w.alloc (.cells (citeC c.fz (.slice (some ⟨b, off, none⟩) c.path.length ca) c.place (.slice B c.super.length cb) c.hd).toArray 34)) 34 Tryz.zeroCells34
        rw [alloc_size] at this
        exact this
      obtain ⟨w0, hw0⟩ : ∃ w0, ((w.alloc (.cells (citeC c.fz (.slice (some ⟨b, off, none⟩) c.path.length ca) c.place (.slice B c.super.length cb) c.hd).toArray 34)).alloc (.cells Tryz.zeroCells34 34)) = w0 := ⟨_, rfl⟩
      rw [hw0] at hE h0 hR
      have lt0 := h0.lt
      have cpa := h0.path r1 0 _ rfl
      have csu := h0.super r1 0 _ rfl
      have fz34 := Blk.frozen h0 34
      have fz36 := Blk.frozen h0 36
      unfold citeV
      go_enter Tryz.func18, Tryz.ntmps18
      have h1 := h0.setPath r1 (.slice (some ⟨b, off, none⟩) 70 ca)
      have csu1 := h1.super r1 0 _ rfl
      have cpa1 := h1.path r1 0 _ rfl
      have fr36 := Blk.frozen h1 36
      have hR1 := hR.updO ((Upd.refl w.heap.size w0).setCell (p := ⟨w.heap.size, 34, none⟩) (.inl rfl) (.slice (some ⟨b, off, none⟩) 70 ca)) (by omega)
      have hE1 : Ext w (w0.setCell ⟨w.heap.size, 34, none⟩ (.slice (some ⟨b, off, none⟩) 70 ca)) := hE.setCell (p := ⟨w.heap.size, 34, none⟩) (Nat.le_refl _) _
      have lt1 := h1.lt
      go_wp2_with (refine stop_load 34 (.tmp 1) rfl ?_)
      refine ⟨?_⟩
      change wpList _ _ _ _ _ (w0.setCell ⟨w.heap.size, 34, none⟩ (.slice (some ⟨b, off, none⟩) 70 ca))
      generalize (w0.setCell ⟨w.heap.size, 34, none⟩ (.slice (some ⟨b, off, none⟩) 70 ca)) = w9 at *
      refine wpList_load_row rfl 34 (.tmp 1) rfl w.heap.size (by rfl) 34 _ (0, 0) _ h1 Tryz.underlying34 rfl (size_ct r1 r2 r3) ?_
      simp only [Act.put, List.setIfInBounds_toArray, List.set_cons_zero, List.set_cons_succ]
      go_wp2_with (refine stop_store 34 (.tmp 2) (.tmp 19) rfl ?_)
      refine ⟨?_⟩
      refine wpList_store_row rfl 34 (.tmp 2) (.tmp 19) rfl (w.heap.size + 1) (citeC c.fz (.slice (some ⟨b, off, none⟩) 70 ca) c.place (.slice B c.super.length cb) c.hd).toArray (by rfl) (by rfl) 34 _ hR1 (size_ct r1 r2 r3) (by simp only [List.size_toArray]; rw [citeC_length r1 r2 r3]; rfl) (all_oneCell_toArray (citeC_one (by rfl) (by rfl))) ?_
      simp only [Act.put, List.setIfInBounds_toArray, List.set_cons_zero, List.set_cons_succ]
      go_wp2_with fail
      (try simp only [Exit.inBlock, Exit.then])
      exact bodyPost_ret (results_cell_row rfl _ _ (w.heap.size + 1) 34 _ (0, 0) _ rfl (Blk.row hR1 (citeC c.fz (.slice (some ⟨b, off, none⟩) 70 ca) c.place (.slice B c.super.length cb) c.hd).toArray) Tryz.underlying34 rfl (size_ct r1 r2 r3)) rfl ⟨_, _, rfl, hP.below (hE1.row (Nat.le_succ _) _) hT, hQ.below (hE1.row (Nat.le_succ _) _) hT, hE1.row (Nat.le_succ _) _⟩
  · by_cases hcs : 70 < c.super.length
    · skip
      have i1 : ¬ (70 : Int) < (c.path.length : Int) := by omega
      have hP : SlS w T (.slice A c.path.length ca) (c.path.take 70) := by rw [List.take_of_length_le (by omega)]; exact hp0
      rcases hBB with ⟨_, hl0, _⟩ | ⟨b', off', rfl⟩
      · exact absurd hl0 (by intro e; rw [e] at hcs; simp at hcs)
      have i2 : (70 : Int) < (c.super.length : Int) := by omega
      have k3 : 70 ≤ cb := by omega
      have k4 : (70 : Int) ≤ (cb : Int) := by omega
      have hQ := sls_take70 r5 hcb hcb63 hrb (by omega)
      clear hcp hcs hra hrb hA hp0 hq0
      have hE : Ext w ((w.alloc (.cells (citeC c.fz (.slice A c.path.length ca) c.place (.slice (some ⟨b', off', none⟩) c.super.length cb) c.hd).toArray 34)).alloc (.cells Tryz.zeroCells34 34)) := ((Ext.refl w).alloc _).alloc _
      have h0 : CiteAt ((w.alloc (.cells (citeC c.fz (.slice A c.path.length ca) c.place (.slice (some ⟨b', off', none⟩) c.super.length cb) c.hd).toArray 34)).alloc (.cells Tryz.zeroCells34 34)) w.heap.size c.fz (.slice A c.path.length ca) c.place (.slice (some ⟨b', off', none⟩) c.super.length cb) c.hd := CiteAt.ext (Blk.new w 34 _) ((Ext.refl _).alloc _)
      have hR : CiteAt ((w.alloc (.cells (citeC c.fz (.slice A c.path.length ca) c.place (.slice (some ⟨b', off', none⟩) c.super.length cb) c.hd).toArray 34)).alloc (.cells Tryz.zeroCells34 34)) (w.heap.size + 1) Seal.zF (.slice none 0 0) 0 (.slice none 0 0) Seal.zH := by
        have := Blk.new (w.alloc (.cells (citeC c.fz (.slice A c.path.length ca) c.place (.slice (some ⟨b', off', none⟩) c.super.length cb) c.hd).toArray 34)) 34 Tryz.zeroCells34
        rw [alloc_size] at this
        exact this
      obtain ⟨w0, hw0⟩ : ∃ w0, ((w.alloc (.cells (citeC c.fz (.slice A c.path.length ca) c.place (.slice (some ⟨b', off', none⟩) c.super.length cb) c.hd).toArray 34)).alloc (.cells Tryz.zeroCells34 34)) = w0 := ⟨_, rfl⟩
      rw [hw0] at hE h0 hR
      have lt0 := h0.lt
      have cpa := h0.path r1 0 _ rfl
      have csu := h0.super r1 0 _ rfl
      have fz34 := Blk.frozen h0 34
      have fz36 := Blk.frozen h0 36
      unfold citeV
      go_enter Tryz.func18, Tryz.ntmps18
      have h2 := h0.setSuper r1 (.slice (some ⟨b', off', none⟩) 70 cb)
      have hR2 := hR.updO ((Upd.refl w.heap.size w0).setCell (p := ⟨w.heap.size, 36, none⟩) (.inl rfl) (.slice (some ⟨b', off', none⟩) 70 cb)) (by omega)
      have hE2 : Ext w (w0.setCell ⟨w.heap.size, 36, none⟩ (.slice (some ⟨b', off', none⟩) 70 cb)) := hE.setCell (p := ⟨w.heap.size, 36, none⟩) (Nat.le_refl _) _
      go_wp2_with (refine stop_load 34 (.tmp 1) rfl ?_)
      refine ⟨?_⟩
      change wpList _ _ _ _ _ (w0.setCell ⟨w.heap.size, 36, none⟩ (.slice (some ⟨b', off', none⟩) 70 cb))
      generalize (w0.setCell ⟨w.heap.size, 36, none⟩ (.slice (some ⟨b', off', none⟩) 70 cb)) = w9 at *
      refine wpList_load_row rfl 34 (.tmp 1) rfl w.heap.size (by rfl) 34 _ (0, 0) _ h2 Tryz.underlying34 rfl (size_ct r1 r2 r3) ?_
      simp only [Act.put, List.setIfInBounds_toArray, List.set_cons_zero, List.set_cons_succ]
      go_wp2_with (refine stop_store 34 (.tmp 2) (.tmp 19) rfl ?_)
      refine ⟨?_⟩
      refine wpList_store_row rfl 34 (.tmp 2) (.tmp 19) rfl (w.heap.size + 1) (citeC c.fz (.slice A c.path.length ca) c.place (.slice (some ⟨b', off', none⟩) 70 cb) c.hd).toArray (by rfl) (by rfl) 34 _ hR2 (size_ct r1 r2 r3) (by simp only [List.size_toArray]; rw [citeC_length r1 r2 r3]; rfl) (all_oneCell_toArray (citeC_one (by rfl) (by rfl))) ?_
      simp only [Act.put, List.setIfInBounds_toArray, List.set_cons_zero, List.set_cons_succ]
      go_wp2_with fail
      (try simp only [Exit.inBlock, Exit.then])
      exact bodyPost_ret (results_cell_row rfl _ _ (w.heap.size + 1) 34 _ (0, 0) _ rfl (Blk.row hR2 (citeC c.fz (.slice A c.path.length ca) c.place (.slice (some ⟨b', off', none⟩) 70 cb) c.hd).toArray) Tryz.underlying34 rfl (size_ct r1 r2 r3)) rfl ⟨_, _, rfl, hP.below (hE2.row (Nat.le_succ _) _) hT, hQ.below (hE2.row (Nat.le_succ _) _) hT, hE2.row (Nat.le_succ _) _⟩
    · skip
      have i1 : ¬ (70 : Int) < (c.path.length : Int) := by omega
      have hP : SlS w T (.slice A c.path.length ca) (c.path.take 70) := by rw [List.take_of_length_le (by omega)]; exact hp0
      have i2 : ¬ (70 : Int) < (c.super.length : Int) := by omega
      have hQ : SlS w T (.slice B c.super.length cb) (c.super.take 70) := by rw [List.take_of_length_le (by omega)]; exact hq0
      clear hcp hcs hra hrb hA hBB hp0 hq0
      have hE : Ext w ((w.alloc (.cells (citeC c.fz (.slice A c.path.length ca) c.place (.slice B c.super.length cb) c.hd).toArray 34)).alloc (.cells Tryz.zeroCells34 34)) := ((Ext.refl w).alloc _).alloc _
      have h0 : CiteAt ((w.alloc (.cells (citeC c.fz (.slice A c.path.length ca) c.place (.slice B c.super.length cb) c.hd).toArray 34)).alloc (.cells Tryz.zeroCells34 34)) w.heap.size c.fz (.slice A c.path.length ca) c.place (.slice B c.super.length cb) c.hd := CiteAt.ext (Blk.new w 34 _) ((Ext.refl _).alloc _)
      have hR : CiteAt ((w.alloc (.cells (citeC c.fz (.slice A c.path.length ca) c.place (.slice B c.super.length cb) c.hd).toArray 34)).alloc (.cells Tryz.zeroCells34 34)) (w.heap.size + 1) Seal.zF (.slice none 0 0) 0 (.slice none 0 0) Seal.zH := by
        have := Blk.new (w.alloc (.cells (citeC c.fz (.slice A c.path.length ca) c.place (.slice B c.super.length cb) c.hd).toArray 34)) 34 Tryz.zeroCells34
        rw [alloc_size] at this
        exact this
      obtain ⟨w0, hw0⟩ : ∃ w0, ((w.alloc (.cells (citeC c.fz (.slice A c.path.length ca) c.place (.slice B c.super.length cb) c.hd).toArray 34)).alloc (.cells Tryz.zeroCells34 34)) = w0 := ⟨_, rfl⟩
      rw [hw0] at hE h0 hR
      have lt0 := h0.lt
      have cpa := h0.path r1 0 _ rfl
      have csu := h0.super r1 0 _ rfl
      have fz34 := Blk.frozen h0 34
      have fz36 := Blk.frozen h0 36
      unfold citeV
      go_enter Tryz.func18, Tryz.ntmps18
      go_wp2_with (refine stop_load 34 (.tmp 1) rfl ?_)
      refine ⟨?_⟩
      change wpList _ _ _ _ _ w0
      generalize w0 = w9 at *
      refine wpList_load_row rfl 34 (.tmp 1) rfl w.heap.size (by rfl) 34 _ (0, 0) _ h0 Tryz.underlying34 rfl (size_ct r1 r2 r3) ?_
      simp only [Act.put, List.setIfInBounds_toArray, List.set_cons_zero, List.set_cons_succ]
      go_wp2_with (refine stop_store 34 (.tmp 2) (.tmp 19) rfl ?_)
      refine ⟨?_⟩
      refine wpList_store_row rfl 34 (.tmp 2) (.tmp 19) rfl (w.heap.size + 1) (citeC c.fz (.slice A c.path.length ca) c.place (.slice B c.super.length cb) c.hd).toArray (by rfl) (by rfl) 34 _ hR (size_ct r1 r2 r3) (by simp only [List.size_toArray]; rw [citeC_length r1 r2 r3]; rfl) (all_oneCell_toArray (citeC_one (by rfl) (by rfl))) ?_
      simp only [Act.put, List.setIfInBounds_toArray, List.set_cons_zero, List.set_cons_succ]
      go_wp2_with fail
      (try simp only [Exit.inBlock, Exit.then])
      exact bodyPost_ret (results_cell_row rfl _ _ (w.heap.size + 1) 34 _ (0, 0) _ rfl (Blk.row hR (citeC c.fz (.slice A c.path.length ca) c.place (.slice B c.super.length cb) c.hd).toArray) Tryz.underlying34 rfl (size_ct r1 r2 r3)) rfl ⟨_, _, rfl, hP.below (hE.row (Nat.le_succ _) _) hT, hQ.below (hE.row (Nat.le_succ _) _) hT, hE.row (Nat.le_succ _) _⟩

end Go.Proofs.YtcgnjdkennkheaaGreatDoor

namespace Go.Proofs.YtcgnjdkennkheaaGreatDoor
open Go.RowKit
open Seal (Fz Hd St Ct)
attribute [local go_sem] bs_size bs_toList2 bs_append bs_extract_end bs_extract_begin bs_get wrap64_b

def zC : Ct := ⟨Seal.zF, [], 0, [], Seal.zH⟩
theorem zC_ok : zC.ok := by
  refine ⟨by rfl, by rfl, by rfl, ?_, ?_⟩
  all_goals
    intro t ht
    cases ht
theorem zC_no : ¬ zC.may := fun h => by
  have := h.1.2.2.1
  exact absurd this (by decide)
set_option maxHeartbeats 1000000 in
theorem awake19_calls (w : World) : Calls Tryz.prog 7 #[] w fun e w' => e = .returned (.bool true) ∧ Ext w w' := by
  have hZ : CiteAt (w.alloc (.cells (citeC Seal.zF (.slice none 0 0) 0 (.slice none 0 0) Seal.zH).toArray 34)) w.heap.size Seal.zF (.slice none 0 0) 0 (.slice none 0 0) Seal.zH := Blk.new w _ _
  have hE : Ext w (w.alloc (.cells (citeC Seal.zF (.slice none 0 0) 0 (.slice none 0 0) Seal.zH).toArray 34)) := (Ext.refl w).alloc _
  have hB := fun w => citeBytes_calls zC zC_ok (.slice none 0 0) (.slice none 0 0) w (slsZero w) (slsZero w)
  rw [zC.outB_no zC_no, zC.outE_no zC_no] at hB
  have hS := fun w => ctSame_calls zC zC zC_ok zC_ok (.slice none 0 0) (.slice none 0 0) (.slice none 0 0) (.slice none 0 0) w (slsZero w) (slsZero w) (slsZero w) (slsZero w)
  rw [show decide (zC = zC) = true by simp] at hS
  have HB := Lib.hid hB; have HS := Lib.hid hS
  clear hB hS
  go_enter Tryz.func7, Tryz.ntmps7
  go_wp2_with (refine stop_load 34 (.tmp 1) rfl ?_)
  refine ⟨?_⟩
  change wpList _ _ _ _ _ (w.alloc (.cells (citeC Seal.zF (.slice none 0 0) 0 (.slice none 0 0) Seal.zH).toArray 34))
  generalize (w.alloc (.cells (citeC Seal.zF (.slice none 0 0) 0 (.slice none 0 0) Seal.zH).toArray 34)) = w0 at *
  refine wpList_load_row rfl 34 (.tmp 1) rfl w.heap.size (by rfl) 34 _ (0, 0) _ hZ Tryz.underlying34 rfl (size_ct (by rfl) (by rfl) (by rfl)) ?_
  simp only [Act.put, List.setIfInBounds_toArray, List.set_cons_zero, List.set_cons_succ]
  go_wp2_with fail
  change Calls _ _ #[citeV zC.fz (.slice none 0 0) zC.place (.slice none 0 0) zC.hd] _ _
  refine (HB.out _).mono ?_; rintro e w1 ⟨rfl, e1⟩
  replace hZ := hZ.ext e1
  replace hE := hE.trans e1
  clear e1
  go_wp2_with (refine stop_load 34 (.tmp 1) rfl ?_)
  refine ⟨?_⟩
  refine list_wantS (by rfl) (fun K hK => ?_)
  refine wp_load_row 34 (.tmp 1) rfl w.heap.size (by rfl) 34 _ (0, 0) _ hZ Tryz.underlying34 rfl (size_ct (by rfl) (by rfl) (by rfl)) ?_
  refine hK _ _ ?_; clear hK K
  simp only [Act.put, List.setIfInBounds_toArray, List.set_cons_zero, List.set_cons_succ]
  go_wp2_with (refine stop_load 34 (.tmp 1) rfl ?_)
  refine ⟨?_⟩
  refine list_wantS (by rfl) (fun K hK => ?_)
  refine wp_load_row 34 (.tmp 1) rfl w.heap.size (by rfl) 34 _ (0, 0) _ hZ Tryz.underlying34 rfl (size_ct (by rfl) (by rfl) (by rfl)) ?_
  refine hK _ _ ?_; clear hK K
  simp only [Act.put, List.setIfInBounds_toArray, List.set_cons_zero, List.set_cons_succ]
  go_wp2_with fail
  change Calls _ _ #[citeV zC.fz (.slice none 0 0) zC.place (.slice none 0 0) zC.hd, citeV zC.fz (.slice none 0 0) zC.place (.slice none 0 0) zC.hd] _ _
  refine (HS.out _).mono ?_; rintro e w2 ⟨rfl, e2⟩
  go_wp2_with fail
  go_ret
  exact ⟨rfl, hE.trans e2⟩

end Go.Proofs.YtcgnjdkennkheaaGreatDoor
