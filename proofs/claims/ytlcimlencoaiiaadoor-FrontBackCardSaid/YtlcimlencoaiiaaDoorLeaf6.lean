/-
  The walk of leaf.Levels once more: its rows lie in blocks one behind the other.
-/
import Derived.Test.YtlcimlencoaiiaaDoorLeafA
set_option linter.unusedVariables false
set_option maxRecDepth 100000
set_option linter.unusedSimpArgs false
namespace Go.Proofs.YtlcimlencoaiiaaDoor
open Go.RowKit
attribute [local go_sem] bs_size bs_toList2 bs_append bs_extract_end bs_extract_begin bs_get wrap64_b grow_cell grow_frozen

/-- Rows in blocks one behind the other. -/
def Sep_ (vs : List Value) : Prop := vs.Pairwise fun a b => blockOf_ a < blockOf_ b
theorem Sep_.one (v : Value) : Sep_ [v] := List.pairwise_singleton _ _
theorem Sep_.snoc {vs : List Value} {v : Value} (h : Sep_ vs) (hv : ∀ u ∈ vs, blockOf_ u < blockOf_ v) : Sep_ (vs ++ [v]) :=
  List.pairwise_append.2 ⟨h, List.pairwise_singleton _ _, fun a ha b hb => by rw [List.mem_singleton.1 hb]; exact hv a ha⟩
theorem own_block {w : World} {base n : Nat} {e : TypeId} {size : Nat} {v : Value} {xs : List Value} (h : w.ownsRow base e size v n xs) (hn : 0 < n) : base ≤ blockOf_ v ∧ blockOf_ v < w.heap.size := by
  rcases h.2 with ⟨_, h0⟩ | ⟨g, cap, cur, rfl, hb, hh, _⟩
  · omega
  · exact ⟨hb, (Array.getElem?_eq_some_iff.1 hh).1⟩

set_option maxHeartbeats 1000000 in
theorem LevelsSep_calls (v : Value) (l : List (List UInt8)) (hl : AllH l) (hn : l.length ≤ 1000) (w : World) (KW : Keys w) (h : SlS w w.heap.size v l) :
    Calls Tryd.prog 25 #[v] w fun e w' => ∃ vo vs, e = .returned vo ∧ w'.ownsRow w.heap.size 29 1 vo vs.length vs ∧ Rows_ w' w.heap.size vs (levS l) ∧ Sep_ vs ∧ Ext w w' := by
  obtain ⟨i0, hi, hz0, hz1, hz2⟩ := info_parts sums_info
  obtain ⟨ls, hls⟩ : ∃ ls, ls = levS l := ⟨_, rfl⟩
  rw [← hls]
  have Hls := Lib.hid hls; clear hls
  go_enter Tryd.func25, Tryd.ntmps25
  go_wp2_with fail
  go_step3
  go_wp2_with fail
  refine (Clone_calls v l hl (by omega) w h).mono ?_; rintro e w1 ⟨v0, rfl, hO, e1⟩
  obtain ⟨A0, c0, rfl, hO2⟩ := hO
  have hO : OwnS w1 w.heap.size (.slice A0 l.length c0) l := ⟨A0, c0, rfl, hO2⟩
  clear hO2
  have hb1 := e1.size
  go_wp2_with fail
  go_step3
  go_wp2_with fail
  change Code.wp _ _ _ _ (w1.alloc (.cells #[.slice A0 l.length c0] 29))
  have hout : (w1.alloc (.cells #[.slice A0 l.length c0] 29)).ownsRow w.heap.size 29 1 (.slice (some ⟨w1.heap.size, 0, none⟩) 1 1) 1 [.slice A0 l.length c0] := own_of_blk (Blk.new _ _ _) hb1
  have hE := e1.alloc (.cells #[.slice A0 l.length c0] 29)
  have hR : Rows_ (w1.alloc (.cells #[.slice A0 l.length c0] 29)) w.heap.size [.slice A0 l.length c0] (levK l 0) := ⟨rfl, fun k h1 h2 => by
    obtain rfl : k = 0 := by simp at h1; omega
    exact hO.ext ((Ext.refl w1).alloc _)⟩
  have hP : l ≠ [] → ∀ v ∈ [Value.slice A0 l.length c0], blockOf_ v < (w1.alloc (.cells #[.slice A0 l.length c0] 29)).heap.size := by
    intro hl0 v hv
    rw [List.mem_singleton.1 hv]
    obtain ⟨A9, c9, _, _, _, _, h9⟩ := hO
    have := (own_block (h9 hl0) (List.length_pos_iff.2 hl0)).2
    simp
    omega
  generalize w1.alloc (.cells #[.slice A0 l.length c0] 29) = w2 at *
  generalize w1.heap.size = g0 at *
  clear hO e1
  go_loopw [3, 4] (fun s3 s4 wr => ∃ (k : Nat) (vr : Value) (vs : List Value), s3 = vr ∧ k + Tree.depth (Tree.row nodeB l k).length = Tree.depth l.length ∧ vs.length = k + 1 ∧ vs[k]? = some vr ∧ wr.ownsRow w.heap.size 29 1 s4 (k + 1) vs ∧ Rows_ wr w.heap.size vs (levK l k) ∧ Sep_ vs ∧ (l ≠ [] → ∀ v ∈ vs, blockOf_ v < wr.heap.size) ∧ Ext w wr) (fun s3 _ _ => slLen s3)
  case atStart => exact ⟨0, _, _, rfl, by simp [Tree.row], rfl, rfl, hout, hR, Sep_.one _, hP, hE⟩
  case round =>
    clear hout hR hE hP
    obtain ⟨k, vr, vs, rfl, hd, hvl, hvk, hout, hR, hSep, hP, hE⟩ := hrel
    have hkl := levK_length l k
    have hOk : OwnS wr w.heap.size u3 (Tree.row nodeB l k) := by
      have h1 : k < vs.length := by omega
      have := hR.own k h1 (by omega)
      rw [List.getElem?_eq_getElem h1] at hvk
      injection hvk with hvk
      rw [hvk] at this
      simpa [levK] using this
    have hrall := row_all l hl k
    have hsl := hOk.sl
    obtain ⟨Ar, cr, hvr, hOr⟩ := hOk
    subst hvr
    have hbd := row_bound l k
    have hrs := Tree.row_length nodeB l k
    have hls1 := levK_succ l k
    have hgl := hE.size
    obtain ⟨Ao, co, rfl⟩ := own_slice hout
    have hd0 : (Tree.row nodeB l k).length < 2 → k = Tree.depth l.length := fun h2 => by rw [Tree.depth_lt _ h2] at hd; omega
    have hd1 : 2 ≤ (Tree.row nodeB l k).length → k + 1 + Tree.depth (Tree.row nodeB l (k + 1)).length = Tree.depth l.length := fun h2 => by rw [Tree.depth_ge _ h2] at hd; rw [hrs]; omega
    have hrow : Tree.row nodeB l (k + 1) = Tree.above nodeB (Tree.row nodeB l k) := rfl
    have Hd0 := Lib.hid hd0; have Hd1 := Lib.hid hd1; have Hls1 := Lib.hid hls1; have Hrow := Lib.hid hrow
    have hvn : vs ≠ [] := by rintro rfl; simp at hvl
    have Hkl := Lib.hid hkl; have Hvk := Lib.hid hvk; have Hvl := Lib.hid hvl; have Hvn := Lib.hid hvn
    clear hd hd0 hd1 hls1 hrow hkl hvk hvl hvn hrs
    generalize hr : Tree.row nodeB l k = r at *
    have Hr := Lib.hid hr; clear hr
    by_cases h2 : r.length < 2
    · have h2I : (r.length : Int) < 2 := by omega
      have hkd := Hd0.out h2
      have hlk : levK l k = ls := by rw [Hls.out, hkd]; rfl
      have hR2 : Rows_ wr w.heap.size vs ls := by rw [← hlk]; exact hR
      have Hres : wr.ownsRow w.heap.size 29 1 (.slice Ao (k + 1) co) vs.length vs := by rw [Hvl.out]; exact hout
      clear hlk hkd hR hout Hkl Hls1
      go_wp2_with fail
      rw [Exit.noGoto_ret]
      go_ret
      exact ⟨_, vs, rfl, Hres, hR2, hSep, hE⟩
    · have h2I : ¬ (r.length : Int) < 2 := by omega
      go_wp2_with fail
      refine (above_calls _ r hrall (by omega) wr (KW.ext hE) hsl).mono ?_; rintro e w3 ⟨v', rfl, hO, e3⟩
      obtain ⟨A', c', rfl⟩ := own_slice hO
      have hal : (Tree.above nodeB r).length ≤ 1000 := by rw [Tree.above_length]; omega
      have hO3 : OwnS w3 w.heap.size (.slice A' (Tree.above nodeB r).length c') (Tree.above nodeB r) := (OwnS.of_own hO).less hgl
      have hR3 := hR.ext e3
      have hl0 : l ≠ [] := by intro e0; rw [e0] at hbd; exact hbd.elim (fun h0 => absurd (Nat.le_trans (Nat.le_of_not_lt h2) h0) (by decide)) (fun h0 => h2 (by omega))
      have hnew : wr.heap.size ≤ blockOf_ (.slice A' (Tree.above nodeB r).length c') ∧ blockOf_ (.slice A' (Tree.above nodeB r).length c') < w3.heap.size := own_block hO (by rw [Tree.above_length]; omega)
      have hSep3 := hSep.snoc (fun v hv => Nat.lt_of_lt_of_le (hP hl0 v hv) hnew.1)
      have hP3 : ∀ v ∈ vs ++ [.slice A' (Tree.above nodeB r).length c'], blockOf_ v < w3.heap.size := fun v hv => by
        rcases List.mem_append.1 hv with hv | hv
        · exact Nat.lt_of_lt_of_le (hP hl0 v hv) e3.size
        · rw [List.mem_singleton.1 hv]; exact hnew.2
      clear hSep hP hnew
      have hout3 := owns_ext hout e3
      have hE3 := hE.trans e3
      have hk1 : k + 1 ≤ 1000 := by have := Hd1.out (by omega); have := depth_le l.length; omega
      clear hR hout hE e3 hO hOr hsl
      go_wp2_with (refine stop_dst 17 rfl ?_)
      refine ⟨?_⟩
      refine wpList_append_own _ rfl _ _ 31 rfl w.heap.size 29 i0 (.slice none 0 0) 1 24 Tryd.underlying31 hi hz0 hz1 hz2 rfl (by decide) _ (k + 1) vs rfl (hout3.alloc _) ⟨w3.heap.size, 0, none⟩ 1 1 [.slice A' (Tree.above nodeB r).length c'] rfl rfl ?c1 ?c2 (by unfold maxLen; omega) (by omega) (by have := hE3.size; simp; omega) ?_
      case c1 =>
        intro j u hj
        match j, hj with
        | 0, hj =>
          simp at hj; subst hj
          rw [Addr.add_mid]
          exact Blk.cell (Blk.new w3 29 #[.slice A' (Tree.above nodeB r).length c']) 0
      case c2 => intro u hu; simp at hu; subst hu; rfl
      intro v5 w5 hown5 hgrow _
      have hR4 := hR3.snoc hO3
      have hR5 := (hR4.ext ((Ext.refl w3).alloc (.cells #[.slice A' (Tree.above nodeB r).length c'] 29))).kept (hout3.alloc (.cells #[.slice A' (Tree.above nodeB r).length c'] 29)) hgrow (by decide)
      have hE5 : Ext w w5 := (hE3.alloc (.cells #[.slice A' (Tree.above nodeB r).length c'] 29)).grown hgrow (by have := hE3.size; simp; omega) (fun g hg => (hout3.lt g hg).1)
      have hP5 : ∀ v ∈ vs ++ [.slice A' (Tree.above nodeB r).length c'], blockOf_ v < w5.heap.size := fun v hv => Nat.lt_of_lt_of_le (hP3 v hv) (by have := hgrow.size; simp at this; omega)
      obtain ⟨A5, c5, rfl⟩ := own_slice hown5
      clear hR3 hR4 hout3 hE3 hgrow hO3 hP3
      go_wp2_with fail
      go_roundw
      case rel =>
        refine ⟨k + 1, _, vs ++ [.slice A' (Tree.above nodeB r).length c'], rfl, Hd1.out (by omega), by rw [List.length_append, Hvl.out]; rfl, ?_, hown5, ?_, hSep3, fun _ => hP5, hE5⟩
        · rw [← Hvl.out, List.getElem?_append_right (Nat.le_refl _)]
          simp
        · rw [Hls1.out, Hrow.out]
          exact hR5
      case measure =>
        simp only [slLen, Tree.above_length]
        omega


end Go.Proofs.YtlcimlencoaiiaaDoor
