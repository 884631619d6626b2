/-
  The walk of leaf.Levels.
-/
import Derived.Test.YtlcimlencoaiiaaDoorLeaf3
set_option linter.unusedVariables false
set_option maxRecDepth 100000
set_option linter.unusedSimpArgs false
namespace Go.Proofs.YtlcimlencoaiiaaDoor
open Go.RowKit
attribute [local go_sem] bs_size bs_toList2 bs_append bs_extract_end bs_extract_begin bs_get wrap64_b grow_cell grow_frozen

theorem depthF_le : ∀ f n, Tree.depthF f n ≤ f
  | 0, n => Nat.le_refl _
  | f + 1, n => by
    unfold Tree.depthF
    split
    · omega
    · have := depthF_le f ((n + 1) / 2)
      omega
theorem depth_le (n : Nat) : Tree.depth n ≤ n := depthF_le n n
def slLen : Value → Nat
  | .slice _ n _ => n
  | _ => 0
theorem own_of_blk {w : World} {base g : Nat} {e : TypeId} {v : Value} (h : Blk w g e #[v]) (hb : base ≤ g) : w.ownsRow base e 1 (.slice (some ⟨g, 0, none⟩) 1 1) 1 [v] :=
  ⟨rfl, .inr ⟨g, 1, #[v], rfl, hb, h, Nat.le_refl _, by unfold maxLen; omega, rfl, rfl⟩⟩
theorem sums_info : (Tryd.prog.info? 29).map (fun i => (i.zero, i.size, i.bytes)) = some (some (.slice none 0 0), 1, 24) := by kernel_rfl
/-- The block in which a row lies. -/
def blockOf_ (v : Value) : Nat := match v with
  | .slice (some a) _ _ => a.block
  | _ => 0
/-- Rows of hashes of the call's own, one behind the other in the heap. -/
structure Rows_ (w : World) (base : Nat) (vs : List Value) (ls : List (List (List UInt8))) : Prop where
  length : vs.length = ls.length
  own : ∀ k (h : k < vs.length) (h' : k < ls.length), OwnS w base vs[k] ls[k]
theorem Rows_.ext {w w' : World} {base : Nat} {vs : List Value} {ls : List (List (List UInt8))} (h : Rows_ w base vs ls) (hb : Ext w w') : Rows_ w' base vs ls := ⟨h.length, fun k h1 h2 => (h.own k h1 h2).ext hb⟩
theorem Rows_.snoc {w : World} {base : Nat} {vs : List Value} {ls : List (List (List UInt8))} (h : Rows_ w base vs ls) {v : Value} {l : List (List UInt8)} (hv : OwnS w base v l) : Rows_ w base (vs ++ [v]) (ls ++ [l]) :=
  ⟨by simp [h.length], fun k h1 h2 => by
    by_cases hk : k < vs.length
    · rw [List.getElem_append_left hk, List.getElem_append_left (by rw [← h.length]; exact hk)]
      exact h.own k hk _
    · have hk2 : k = vs.length := by simp at h1; omega
      subst hk2
      have e2 : (ls ++ [l])[vs.length]'h2 = l := by
        rw [List.getElem_append_right (by rw [h.length]; exact Nat.le_refl _)]
        simp [h.length]
      rw [e2, List.getElem_append_right (Nat.le_refl _)]
      simpa using hv⟩
def levK (l : List (List UInt8)) (k : Nat) : List (List (List UInt8)) := (List.range (k + 1)).map (Tree.row nodeB l)
theorem levK_succ (l : List (List UInt8)) (k : Nat) : levK l (k + 1) = levK l k ++ [Tree.row nodeB l (k + 1)] := by
  unfold levK
  rw [List.range_succ, List.map_append]
  rfl
theorem levK_length (l : List (List UInt8)) (k : Nat) : (levK l k).length = k + 1 := by simp [levK]
/-- All rows. -/
def levS (l : List (List UInt8)) : List (List (List UInt8)) := levK l (Tree.depth l.length)
theorem OwnS.less {w : World} {base base' : Nat} {v : Value} {l : List (List UInt8)} (h : OwnS w base v l) (hb : base' ≤ base) : OwnS w base' v l := by
  obtain ⟨A, cap, h1, h2, h3, h4, h5⟩ := h
  exact ⟨A, cap, h1, h2, h3, h4, fun hl => by
    obtain ⟨e1, e2⟩ := h5 hl
    exact ⟨e1, e2.imp id fun ⟨g, c, cur, a1, a2, a3⟩ => ⟨g, c, cur, a1, by omega, a3⟩⟩⟩
theorem row_bound (l : List (List UInt8)) (k : Nat) : (Tree.row nodeB l k).length ≤ l.length ∨ (Tree.row nodeB l k).length ≤ 1 := by
  induction k with
  | zero => exact .inl (Nat.le_refl _)
  | succ k ih =>
    rw [Tree.row_length]
    omega

theorem own_ne {w : World} {base base' n n' size size' : Nat} {e e' : TypeId} {v v' : Value} {xs xs' : List Value} (h : w.ownsRow base e size v n xs) (h' : w.ownsRow base' e' size' v' n' xs') (hne : e ≠ e') : v.ownBlock = none ∨ v.ownBlock ≠ v'.ownBlock := by
  rcases h.2 with ⟨rfl, _⟩ | ⟨g, cap, cur, rfl, _, hh, _⟩
  · exact .inl rfl
  · rcases h'.2 with ⟨rfl, _⟩ | ⟨g', cap', cur', rfl, _, hh', _⟩
    · exact .inr (by simp [Value.ownBlock])
    · refine .inr (fun e1 => ?_)
      have : g = g' := by simpa [Value.ownBlock] using e1
      subst this
      rw [hh] at hh'
      injection hh' with hh'
      injection hh' with _ ht
      exact hne ht
theorem OwnS.kept {w w' : World} {base base' n size : Nat} {e : TypeId} {v vo : Value} {l : List (List UInt8)} {xs : List Value} (h : OwnS w base v l) (ho : w.ownsRow base' e size vo n xs) (hg : w.grownBy w' vo.ownBlock) (hne : 23 ≠ e) : OwnS w' base v l := by
  obtain ⟨A, cap, h1, h2, h3, h4, h5⟩ := h
  exact ⟨A, cap, h1, h2, h3, h4, fun hl => (h5 hl).kept hg (own_ne (h5 hl) ho hne)⟩
theorem Rows_.kept {w w' : World} {base base' n size : Nat} {e : TypeId} {vs : List Value} {vo : Value} {ls : List (List (List UInt8))} {xs : List Value} (h : Rows_ w base vs ls) (ho : w.ownsRow base' e size vo n xs) (hg : w.grownBy w' vo.ownBlock) (hne : 23 ≠ e) : Rows_ w' base vs ls :=
  ⟨h.length, fun k h1 h2 => (h.own k h1 h2).kept ho hg hne⟩

set_option maxHeartbeats 1000000 in
theorem Levels_calls (v : Value) (l : List (List UInt8)) (hl : AllH l) (hn : l.length ≤ 1000) (w : World) (KW : Keys w) (h : SlS w w.heap.size v l) :
    Calls Tryd.prog 25 #[v] w fun e w' => ∃ vo vs, e = .returned vo ∧ w'.ownsRow w.heap.size 29 1 vo vs.length vs ∧ Rows_ w' w.heap.size vs (levS l) ∧ Ext w w' := by
  obtain ⟨i0, hi, hz0, hz1, hz2⟩ := info_parts sums_info
  obtain ⟨ls, hls⟩ : ∃ ls, ls = levS l := ⟨_, rfl⟩
  rw [← hls]
  have Hls := Lib.hid hls; clear hls
  go_enter Tryd.func25, Tryd.ntmps25
  go_wp2_with fail
  go_step3
  go_wp2_with fail
  refine (Clone_calls v l hl (by omega) w h).mono ?_; rintro e w1 ⟨v0, rfl, hO, e1⟩
  obtain ⟨A0, c0, rfl, hO2⟩ := hO
  have hO : OwnS w1 w.heap.size (.slice A0 l.length c0) l := ⟨A0, c0, rfl, hO2⟩
  clear hO2
  have hb1 := e1.size
  go_wp2_with fail
  go_step3
  go_wp2_with fail
  change Code.wp _ _ _ _ (w1.alloc (.cells #[.slice A0 l.length c0] 29))
  have hout : (w1.alloc (.cells #[.slice A0 l.length c0] 29)).ownsRow w.heap.size 29 1 (.slice (some ⟨w1.heap.size, 0, none⟩) 1 1) 1 [.slice A0 l.length c0] := own_of_blk (Blk.new _ _ _) hb1
  have hE := e1.alloc (.cells #[.slice A0 l.length c0] 29)
  have hR : Rows_ (w1.alloc (.cells #[.slice A0 l.length c0] 29)) w.heap.size [.slice A0 l.length c0] (levK l 0) := ⟨rfl, fun k h1 h2 => by
    obtain rfl : k = 0 := by simp at h1; omega
    exact hO.ext ((Ext.refl w1).alloc _)⟩
  generalize w1.alloc (.cells #[.slice A0 l.length c0] 29) = w2 at *
  generalize w1.heap.size = g0 at *
  clear hO e1
  go_loopw [3, 4] (fun s3 s4 wr => ∃ (k : Nat) (vr : Value) (vs : List Value), s3 = vr ∧ k + Tree.depth (Tree.row nodeB l k).length = Tree.depth l.length ∧ vs.length = k + 1 ∧ vs[k]? = some vr ∧ wr.ownsRow w.heap.size 29 1 s4 (k + 1) vs ∧ Rows_ wr w.heap.size vs (levK l k) ∧ Ext w wr) (fun s3 _ _ => slLen s3)
  case atStart => exact ⟨0, _, _, rfl, by simp [Tree.row], rfl, rfl, hout, hR, hE⟩
  case round =>
    clear hout hR hE
    obtain ⟨k, vr, vs, rfl, hd, hvl, hvk, hout, hR, hE⟩ := hrel
    have hkl := levK_length l k
    have hOk : OwnS wr w.heap.size u3 (Tree.row nodeB l k) := by
      have h1 : k < vs.length := by omega
      have := hR.own k h1 (by omega)
      rw [List.getElem?_eq_getElem h1] at hvk
      injection hvk with hvk
      rw [hvk] at this
      simpa [levK] using this
    have hrall := row_all l hl k
    have hsl := hOk.sl
    obtain ⟨Ar, cr, hvr, hOr⟩ := hOk
    subst hvr
    have hbd := row_bound l k
    have hrs := Tree.row_length nodeB l k
    have hls1 := levK_succ l k
    have hgl := hE.size
    obtain ⟨Ao, co, rfl⟩ := own_slice hout
    have hd0 : (Tree.row nodeB l k).length < 2 → k = Tree.depth l.length := fun h2 => by rw [Tree.depth_lt _ h2] at hd; omega
    have hd1 : 2 ≤ (Tree.row nodeB l k).length → k + 1 + Tree.depth (Tree.row nodeB l (k + 1)).length = Tree.depth l.length := fun h2 => by rw [Tree.depth_ge _ h2] at hd; rw [hrs]; omega
    have hrow : Tree.row nodeB l (k + 1) = Tree.above nodeB (Tree.row nodeB l k) := rfl
    have Hd0 := Lib.hid hd0; have Hd1 := Lib.hid hd1; have Hls1 := Lib.hid hls1; have Hrow := Lib.hid hrow
    have hvn : vs ≠ [] := by rintro rfl; simp at hvl
    have Hkl := Lib.hid hkl; have Hvk := Lib.hid hvk; have Hvl := Lib.hid hvl; have Hvn := Lib.hid hvn
    clear hd hd0 hd1 hls1 hrow hkl hvk hvl hvn hrs
    generalize hr : Tree.row nodeB l k = r at *
    have Hr := Lib.hid hr; clear hr
    by_cases h2 : r.length < 2
    · have h2I : (r.length : Int) < 2 := by omega
      have hkd := Hd0.out h2
      have hlk : levK l k = ls := by rw [Hls.out, hkd]; rfl
      have hR2 : Rows_ wr w.heap.size vs ls := by rw [← hlk]; exact hR
      have Hres : wr.ownsRow w.heap.size 29 1 (.slice Ao (k + 1) co) vs.length vs := by rw [Hvl.out]; exact hout
      clear hlk hkd hR hout Hkl Hls1
      go_wp2_with fail
      rw [Exit.noGoto_ret]
      go_ret
      exact ⟨_, vs, rfl, Hres, hR2, hE⟩
    · have h2I : ¬ (r.length : Int) < 2 := by omega
      go_wp2_with fail
      refine (above_calls _ r hrall (by omega) wr (KW.ext hE) hsl).mono ?_; rintro e w3 ⟨v', rfl, hO, e3⟩
      obtain ⟨A', c', rfl⟩ := own_slice hO
      have hal : (Tree.above nodeB r).length ≤ 1000 := by rw [Tree.above_length]; omega
      have hO3 : OwnS w3 w.heap.size (.slice A' (Tree.above nodeB r).length c') (Tree.above nodeB r) := (OwnS.of_own hO).less hgl
      have hR3 := hR.ext e3
      have hout3 := owns_ext hout e3
      have hE3 := hE.trans e3
      have hk1 : k + 1 ≤ 1000 := by have := Hd1.out (by omega); have := depth_le l.length; omega
      clear hR hout hE e3 hO hOr hsl
      go_wp2_with (refine stop_dst 17 rfl ?_)
      refine ⟨?_⟩
      refine wpList_append_own _ rfl _ _ 31 rfl w.heap.size 29 i0 (.slice none 0 0) 1 24 Tryd.underlying31 hi hz0 hz1 hz2 rfl (by decide) _ (k + 1) vs rfl (hout3.alloc _) ⟨w3.heap.size, 0, none⟩ 1 1 [.slice A' (Tree.above nodeB r).length c'] rfl rfl ?c1 ?c2 (by unfold maxLen; omega) (by omega) (by have := hE3.size; simp; omega) ?_
      case c1 =>
        intro j u hj
        match j, hj with
        | 0, hj =>
          simp at hj; subst hj
          rw [Addr.add_mid]
          exact Blk.cell (Blk.new w3 29 #[.slice A' (Tree.above nodeB r).length c']) 0
      case c2 => intro u hu; simp at hu; subst hu; rfl
      intro v5 w5 hown5 hgrow _
      have hR4 := hR3.snoc hO3
      have hR5 := (hR4.ext ((Ext.refl w3).alloc (.cells #[.slice A' (Tree.above nodeB r).length c'] 29))).kept (hout3.alloc (.cells #[.slice A' (Tree.above nodeB r).length c'] 29)) hgrow (by decide)
      have hE5 : Ext w w5 := (hE3.alloc (.cells #[.slice A' (Tree.above nodeB r).length c'] 29)).grown hgrow (by have := hE3.size; simp; omega) (fun g hg => (hout3.lt g hg).1)
      obtain ⟨A5, c5, rfl⟩ := own_slice hown5
      clear hR3 hR4 hout3 hE3 hgrow hO3
      go_wp2_with fail
      go_roundw
      case rel =>
        refine ⟨k + 1, _, vs ++ [.slice A' (Tree.above nodeB r).length c'], rfl, Hd1.out (by omega), by rw [List.length_append, Hvl.out]; rfl, ?_, hown5, ?_, hE5⟩
        · rw [← Hvl.out, List.getElem?_append_right (Nat.le_refl _)]
          simp
        · rw [Hls1.out, Hrow.out]
          exact hR5
      case measure =>
        simp only [slLen, Tree.above_length]
        omega

end Go.Proofs.YtlcimlencoaiiaaDoor
