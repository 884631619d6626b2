/-
  The walk of the document's Levels.
-/
import Derived.Test.YtlcimlencoaiiaaDoorLeafA
import Derived.Laws.AppendOwnNone
set_option linter.unusedVariables false
set_option maxRecDepth 100000
set_option linter.unusedSimpArgs false
namespace Go.Proofs.YtlcimlencoaiiaaDoor
open Go.RowKit
attribute [local go_sem] bs_size bs_toList2 bs_append bs_extract_end bs_extract_begin bs_get wrap64_b grow_cell grow_frozen

/-- append(nil, l...). -/
theorem append_sls {ops : Array Oper} {rest : List Oper} {o : Oper} {a : Act} {w : World} {Q : Exit → Act → World → Prop} (hgd : o.guard = none) (s x : Operand) (ho : o.op = .call { callee := .builtin .append, args := #[s, x], argTypes := #[29, 29] })
    (v : Value) (l : List (List UInt8)) (hs : a.eval s = .slice none 0 0) (hx : a.eval x = v) (hl : AllH l) (hn : l.length ≤ 1000000) {B : Nat} (h : SlS w B v l) (base : Nat) (hb : base ≤ w.heap.size)
    (hK : ∀ v' w', w'.ownsRow base 23 32 v' l.length (flatS l) → Ext w w' → wpList Tryd.prog ops Q rest (a.put o.dst v') w') : wpList Tryd.prog ops Q (o :: rest) a w := by
  obtain ⟨i0, z, hi, hz0, hz1, hz2, hz3⟩ := info_sum
  obtain ⟨A, cap, rfl, hA, hc, hc63, hr⟩ := h
  have h0 : w.ownsRow base 23 32 (.slice none 0 0) 0 [] := World.ownsRow_nil _ _ _ _
  have ext : ∀ w', w.grownBy w' (Value.slice none 0 0).ownBlock → Ext w w' := fun w' hg => ⟨hg.os, hg.tape, hg.output, hg.size, fun k hk => hg.block k hk (by simp [Value.ownBlock])⟩
  have one : ∀ (ad : Addr), A = some ad → wpList Tryd.prog ops Q (o :: rest) a w := fun ad hA' => by
    subst hA'
    refine wpList_append_own w hgd s x 29 ho base 23 i0 z 32 32 Tryd.underlying29 hi hz0 hz1 hz2 hz3 (by decide) _ 0 [] hs h0 ad l.length cap (flatS l) hx (flatS_length l hl) (fun j u hu => ?_) (flatS_one_ l) (by unfold maxLen; omega) (by omega) hb fun v' w' h1 h2 _ => hK v' w' (by simpa using h1) (ext w' h2)
    obtain ⟨b', off', e, _, hcc⟩ := hr (fun e => by rw [e] at hu; simp at hu)
    injection e with e
    subst e
    rw [Addr.add_mid]
    exact hcc j u hu
  rcases hA with ⟨rfl | ⟨ad, rfl⟩, rfl, rfl⟩ | ⟨b, off, rfl⟩
  · exact wpList_append_own_none hgd s x 29 ho base 23 i0 32 Tryd.underlying29 hi _ 0 [] hs h0 hx (hK _ w h0 (Ext.refl w))
  · exact one ad rfl
  · exact one _ rfl

/-- append(up, x). -/
theorem append_one {ops : Array Oper} {rest : List Oper} {o : Oper} {a : Act} {w w0 : World} {Q : Exit → Act → World → Prop} (hgd : o.guard = none) (s x : Operand) (ho : o.op = .call { callee := .builtin .append, args := #[s, x], argTypes := #[29, 29] })
    (v : Value) (l : List (List UInt8)) (y : List UInt8) (hs : a.eval s = v) (hx : a.eval x = .slice (some ⟨w.heap.size, 0, none⟩) 1 1) (hy : y.length = 32) (hn : l.length ≤ 1000000) (base : Nat) (hb : base ≤ w.heap.size) (n : Nat) (hln : l.length = n)
    (h : w.ownsRow base 23 32 v n (flatS l)) (hE : Ext w0 w) (hb0 : w0.heap.size ≤ base)
    (hK : ∀ A c w', w'.ownsRow base 23 32 (.slice A (n + 1) c) (n + 1) (flatS (l ++ [y])) → Ext w0 w' → wpList Tryd.prog ops Q rest (a.put o.dst (.slice A (n + 1) c)) w') :
    wpList Tryd.prog ops Q (o :: rest) a (w.alloc (.cells (flatS [y]).toArray 23)) := by
  obtain ⟨i0, z, hi, hz0, hz1, hz2, hz3⟩ := info_sum
  refine wpList_append_own _ hgd s x 29 ho base 23 i0 z 32 32 Tryd.underlying29 hi hz0 hz1 hz2 hz3 (by decide) v n (flatS l) hs (h.alloc _) ⟨w.heap.size, 0, none⟩ 1 1 (hcells y) hx (by rw [hcells_length, hy]) (fun j u hj => ?_) (hcells_one y) (by unfold maxLen; omega) (by omega) (by simp; omega) fun v' w' h1 h2 _ => ?_
  · rw [Addr.add_mid, Nat.zero_add, Blk.cell (Blk.new w 23 (flatS [y]).toArray) j, flatS_one]
    simpa using hj
  · obtain ⟨A, c, rfl⟩ := own_slice h1
    rw [← flatS_one, ← flatS_append] at h1
    exact hK A c w' h1 ((hE.alloc _).grown h2 (by have := hE.size; simp; omega) (fun g hg => Nat.le_trans hb0 (h.lt g hg).1))

set_option maxHeartbeats 2000000 in
theorem refLevels_calls (v : Value) (l : List (List UInt8)) (hl : AllH l) (hn : l.length ≤ 1000) (w : World) (h : SlS w w.heap.size v l) :
    Calls Tryd.prog 26 #[v] w fun e w' => ∃ vo vs, e = .returned vo ∧ w'.ownsRow w.heap.size 29 1 vo vs.length vs ∧ Rows_ w' w.heap.size vs (levS l) ∧ Ext w w' := by
  obtain ⟨i0, hi, hz0, hz1, hz2⟩ := info_parts sums_info
  obtain ⟨ls, hls⟩ : ∃ ls, ls = levS l := ⟨_, rfl⟩
  rw [← hls]
  have Hls := Lib.hid hls; clear hls
  have hv := h
  obtain ⟨A, cap, rfl, _⟩ := h
  go_enter Tryd.func26, Tryd.ntmps26
  go_wp2_with (refine stop_dst 9 rfl ?_)
  refine ⟨?_⟩
  refine append_sls rfl (.tmp 7) (.tmp 8) rfl _ l rfl rfl hl (by omega) hv w.heap.size (Nat.le_refl _) fun v0 w1 hO e1 => ?_
  obtain ⟨A0, c0, rfl⟩ := own_slice hO
  have hb1 := e1.size
  simp only [Act.put, List.setIfInBounds_toArray, List.set_cons_zero, List.set_cons_succ]
  go_wp2_with fail
  change Code.wp _ _ _ _ (w1.alloc (.cells #[.slice A0 l.length c0] 29))
  have hout : (w1.alloc (.cells #[.slice A0 l.length c0] 29)).ownsRow w.heap.size 29 1 (.slice (some ⟨w1.heap.size, 0, none⟩) 1 1) 1 [.slice A0 l.length c0] := own_of_blk (Blk.new _ _ _) hb1
  have hE := e1.alloc (.cells #[.slice A0 l.length c0] 29)
  have hR : Rows_ (w1.alloc (.cells #[.slice A0 l.length c0] 29)) w.heap.size [.slice A0 l.length c0] (levK l 0) := ⟨rfl, fun k h1 h2 => by
    obtain rfl : k = 0 := by simp at h1; omega
    exact OwnS.of_own (owns_ext hO ((Ext.refl w1).alloc _))⟩
  generalize w1.alloc (.cells #[.slice A0 l.length c0] 29) = w2 at *
  generalize w1.heap.size = g0 at *
  clear hO e1 hv
  go_loopw [3, 4] (fun s3 s4 wr => ∃ (k : Nat) (vr : Value) (vs : List Value), s3 = vr ∧ k + Tree.depth (Tree.row nodeB l k).length = Tree.depth l.length ∧ vs.length = k + 1 ∧ vs[k]? = some vr ∧ wr.ownsRow w.heap.size 29 1 s4 (k + 1) vs ∧ Rows_ wr w.heap.size vs (levK l k) ∧ Ext w wr) (fun s3 _ _ => slLen s3)
  case atStart => exact ⟨0, _, _, rfl, by simp [Tree.row], rfl, rfl, hout, hR, hE⟩
  case round =>
    clear hout hR hE
    obtain ⟨wo, rfl⟩ : ∃ wo : World, wo = wr := ⟨_, rfl⟩
    obtain ⟨k, vr, vs, rfl, hd, hvl, hvk, hout, hR, hE⟩ := hrel
    have hkl := levK_length l k
    have hOk : OwnS wo w.heap.size u3 (Tree.row nodeB l k) := by
      have h1 : k < vs.length := by omega
      have := hR.own k h1 (by omega)
      rw [List.getElem?_eq_getElem h1] at hvk
      injection hvk with hvk
      rw [hvk] at this
      simpa [levK] using this
    have hrall := row_all l hl k
    have hsl := hOk.sl
    obtain ⟨Ar, cr, hvr, hOr⟩ := hOk
    subst hvr
    have hbd := row_bound l k
    have hrs := Tree.row_length nodeB l k
    have hls1 := levK_succ l k
    have hgl := hE.size
    obtain ⟨Ao, co, rfl⟩ := own_slice hout
    have hd0 : (Tree.row nodeB l k).length < 2 → k = Tree.depth l.length := fun h2 => by rw [Tree.depth_lt _ h2] at hd; omega
    have hd1 : 2 ≤ (Tree.row nodeB l k).length → k + 1 + Tree.depth (Tree.row nodeB l (k + 1)).length = Tree.depth l.length := fun h2 => by rw [Tree.depth_ge _ h2] at hd; rw [hrs]; omega
    have hrow : Tree.row nodeB l (k + 1) = Tree.above nodeB (Tree.row nodeB l k) := rfl
    have Hd0 := Lib.hid hd0; have Hd1 := Lib.hid hd1; have Hls1 := Lib.hid hls1; have Hrow := Lib.hid hrow
    have Hkl := Lib.hid hkl; have Hvk := Lib.hid hvk; have Hvl := Lib.hid hvl
    clear hd hd0 hd1 hls1 hrow hkl hvk hvl hrs hOr
    generalize hr : Tree.row nodeB l k = r at *
    have Hr := Lib.hid hr; clear hr
    by_cases h2 : 1 < r.length
    · have h2I : (1 : Int) < (r.length : Int) := by omega
      obtain ⟨Ar', cr', hve, hA, hrc, hrc63, hrr⟩ := hsl
      obtain ⟨rfl, rfl⟩ : Ar = Ar' ∧ cr = cr' := by injection hve with x1 x2 x3; exact ⟨x1, x3⟩
      clear hve
      rcases hA with ⟨_, hl1, _⟩ | ⟨b, off, rfl⟩
      · rw [hl1] at h2; simp at h2
      have hr20 : r.length ≤ 1000 := by omega
      go_wp2_with fail
      have hO0 : wo.ownsRow wo.heap.size 23 32 (.slice none 0 0) 0 (flatS (Tree.above nodeB (r.take (2 * 0)))) := by
        rw [Nat.mul_zero, List.take_zero]
        exact World.ownsRow_nil _ _ _ _
      go_loopw [5, 6] (fun s5 s6 wr => ∃ (j : Nat) (vu : Value), j ≤ (r.length + 1) / 2 ∧ s5 = vu ∧ s6 = .int .i64 ((2 * j : Nat) : Int) ∧ wr.ownsRow wo.heap.size 23 32 vu j (flatS (Tree.above nodeB (r.take (2 * j)))) ∧ Ext wo wr) (fun _ s6 _ => r.length + 2 - (intOf s6).toNat)
      case atStart => exact ⟨0, _, by omega, rfl, rfl, hO0, Ext.refl wo⟩
      case round =>
        clear hO0
        obtain ⟨wq, rfl⟩ : ∃ wq : World, wq = wr := ⟨_, rfl⟩
        obtain ⟨j, vu, hj, rfl, rfl, hO, hX⟩ := hrel
        obtain ⟨Au, cu, rfl⟩ := own_slice hO
        have hal := Tree.above_length nodeB (r.take (2 * j))
        have hap := above_all _ (hrall.take (2 * j))
        have hrr1 := hrr.below hX (Nat.le_refl _)
        have hXs := hX.size
        by_cases hlt : 2 * j < r.length
        · have hit : ((2 * j : Nat) : Int) < (r.length : Int) := by omega
          have hjl : (Tree.above nodeB (r.take (2 * j))).length = j := above_take_length r j (by omega)
          have hx := hrall.get (2 * j) hlt
          obtain ⟨hb0, hm0⟩ := rds_at hrr1 hrall hlt
          have hbl : b < wq.heap.size := by omega
          by_cases hlt1 : 2 * j + 1 < r.length
          · have hit1 : ((2 * j : Nat) : Int) + 1 < (r.length : Int) := by omega
            have hy := hrall.get (2 * j + 1) hlt1
            obtain ⟨_, hm1⟩ := rds_at hrr1 hrall hlt1
            have hat := above_take r j hlt1
            have Hat := Lib.hid hat; have Hjl := Lib.hid hjl
            have h2j1 : 2 * (j + 1) = 2 * j + 2 := by omega
            have H2j := Lib.hid h2j1
            have hjm : j + 1 ≤ (r.length + 1) / 2 := by omega
            clear hat hjl hal h2j1
            generalize Tree.above nodeB (r.take (2 * j)) = ap at *
            generalize r[2 * j] = p at *
            generalize r[2 * j + 1] = q at *
            generalize hq : 2 * j = jj at *
            have Hq := Lib.hid hq; clear hq
            go_wp2_with fail
            refine region_mix 12 (by kernel_rfl) (by kernel_rfl) (fun x => ?_); simp only [List.take_succ_cons, List.take_zero, List.drop_succ_cons, List.drop_zero]
            iterate 4 (first | (refine mix_quiet (by rfl) (by rfl) (fun K hK => ?_); go_big_quiet_op; refine hK _ ?_; clear hK K) | (refine mix_skip (by rfl) ?_; simp only [Act.put, List.setIfInBounds_toArray, List.set_cons_zero, List.set_cons_succ]))
            refine mix_mid (by rfl) (by rfl) 23 (.tmp 29) rfl b (off + jj * 32) (by rfl) _ _ hm0 hbl Tryd.underlying23 rfl (size32l _ hx) ?_
            simp only [Act.put, List.setIfInBounds_toArray, List.set_cons_zero, List.set_cons_succ]
            iterate 4 (first | (refine mix_quiet (by rfl) (by rfl) (fun K hK => ?_); go_big_quiet_op; refine hK _ ?_; clear hK K) | (refine mix_skip (by rfl) ?_; simp only [Act.put, List.setIfInBounds_toArray, List.set_cons_zero, List.set_cons_succ]))
            refine mix_mid (by rfl) (by rfl) 23 (.tmp 34) rfl b (off + (jj + 1) * 32) (by rfl) _ _ hm1 hbl Tryd.underlying23 rfl (size32l _ hy) ?_
            simp only [Act.put, List.setIfInBounds_toArray, List.set_cons_zero, List.set_cons_succ]
            (refine mix_loud (by rfl) (by rfl) (fun K E hK => ?_); go_big_op)
            change Calls _ _ #[sumV p, sumV q] _ _
            refine (refNode_calls p q hx hy _).mono ?_; rintro e w3 ⟨rfl, hd'⟩
            obtain ⟨x', rfl⟩ := more_ext _ hd'
            refine hK _ _ ⟨_, rfl⟩ ?_; clear hK K E
            refine mix_loud (by rfl) (by rfl) (fun K E hK => ?_)
            refine wp_buildSums 1 _ rfl [nodeB p q] (AllH.cons (nodeB_length _ _) AllH.nil) rfl (by decide) (by decide) (by rfl) ?_
            obtain ⟨x2, hx2⟩ := more_of ((grow_ext x').alloc (.cells (flatS [nodeB p q]).toArray 23))
            refine hK _ _ ⟨x2, hx2⟩ ?_; clear hK K E hx2 x2
            simp only [Act.put, List.setIfInBounds_toArray, List.set_cons_zero, List.set_cons_succ]
            refine mix_nil ?_
            have hX2 := hX.trans (grow_ext x')
            have hO2 := owns_ext hO (grow_ext x')
            have hs2 := (grow_ext x').size
            refine append_one rfl (.tmp 26) (.tmp 37) rfl _ ap (nodeB p q) rfl rfl (nodeB_length _ _) (by have := Hjl.out; omega) wo.heap.size (by omega) j Hjl.out hO2 hX2 (Nat.le_refl _) fun A5 c5 w5 hO5 hX5 => ?_
            simp only [Act.put, List.setIfInBounds_toArray, List.set_cons_zero, List.set_cons_succ]
            clear hO2 hX2 hX hO hm0 hm1 hrr1
            go_wp2_with fail
            go_roundw
            case rel => exact ⟨j + 1, _, hjm, rfl, by rw [H2j.out, ← Hq.out]; go_num, by rw [Hat.out]; exact hO5, hX5⟩
            case measure => simp [intOf]; omega
          · have hit1 : ¬ ((2 * j : Nat) : Int) + 1 < (r.length : Int) := by omega
            have hjj : j = r.length / 2 := by omega
            have hodd := Tree.above_odd nodeB [] r (by omega)
            rw [List.getElem?_eq_getElem (show r.length - 1 < r.length by omega), ← hjj] at hodd
            have hlast : r[r.length - 1]'(by omega) = r[2 * j] := by congr 1; omega
            have htk : r.take (2 * (j + 1)) = r := List.take_of_length_le (by omega)
            have hat : Tree.above nodeB (r.take (2 * (j + 1))) = Tree.above nodeB (r.take (2 * j)) ++ [r[2 * j]] := by rw [htk, hodd, Option.getD_some, hlast]
            have Hat := Lib.hid hat; have Hjl := Lib.hid hjl
            have h2j1 : 2 * (j + 1) = 2 * j + 2 := by omega
            have H2j := Lib.hid h2j1
            have hjm : j + 1 ≤ (r.length + 1) / 2 := by omega
            clear hat hjl hal h2j1 hodd hlast htk hjj
            generalize Tree.above nodeB (r.take (2 * j)) = ap at *
            generalize r[2 * j] = p at *
            generalize hq : 2 * j = jj at *
            have Hq := Lib.hid hq; clear hq
            go_wp2_with (refine stop_load 23 (.tmp 42) rfl ?_)
            refine ⟨?_⟩
            refine wpList_load_mid rfl 23 (.tmp 42) rfl b (off + jj * 32) (by rfl) (hcells p) _ hm0 Tryd.underlying23 rfl (size32l _ hx) ?_
            simp only [Act.put, List.setIfInBounds_toArray, List.set_cons_zero, List.set_cons_succ]
            refine wpList_buildSums rfl 1 _ rfl [p] (AllH.cons hx AllH.nil) rfl (by decide) (by decide) (by rfl) ?_
            simp only [Act.put, List.setIfInBounds_toArray, List.set_cons_zero, List.set_cons_succ]
            refine append_one rfl (.tmp 39) (.tmp 44) rfl _ ap p rfl rfl hx (by have := Hjl.out; omega) wo.heap.size (by omega) j Hjl.out hO hX (Nat.le_refl _) fun A5 c5 w5 hO5 hX5 => ?_
            simp only [Act.put, List.setIfInBounds_toArray, List.set_cons_zero, List.set_cons_succ]
            clear hX hO hm0 hrr1
            go_wp2_with fail
            go_roundw
            case rel => exact ⟨j + 1, _, hjm, rfl, by rw [H2j.out, ← Hq.out]; go_num, by rw [Hat.out]; exact hO5, hX5⟩
            case measure => simp [intOf]; omega
        · have hit : ¬ ((2 * j : Nat) : Int) < (r.length : Int) := by omega
          have hjj : j = (r.length + 1) / 2 := by omega
          have htk : r.take (2 * j) = r := List.take_of_length_le (by omega)
          have harl : (Tree.above nodeB r).length = j := by rw [Tree.above_length]; omega
          rw [htk] at hO
          have hO3 : OwnS wq w.heap.size (.slice Au j cu) (Tree.above nodeB r) := (OwnS.of_own (by rw [harl]; exact hO)).less hgl
          have hR3 := hR.ext hX
          have hout3 := owns_ext hout hX
          have hE3 := hE.trans hX
          have hk1 : k + 1 ≤ 1000 := by have := Hd1.out (by omega); have := depth_le l.length; omega
          have Hjj := Lib.hid hjj
          clear hR hout hE hO hX hap hal hrr1 hjj htk
          generalize hq : 2 * j = jj at *
          clear hq
          go_wp2_with (refine stop_dst 49 rfl ?_)
          refine ⟨?_⟩
          refine wpList_append_own _ rfl _ _ 31 rfl w.heap.size 29 i0 (.slice none 0 0) 1 24 Tryd.underlying31 hi hz0 hz1 hz2 rfl (by decide) _ (k + 1) vs rfl (hout3.alloc _) ⟨wq.heap.size, 0, none⟩ 1 1 [.slice Au j cu] rfl rfl ?c1 ?c2 (by unfold maxLen; omega) (by omega) (by have := hE3.size; simp; omega) ?_
          case c1 =>
            intro jx u hj
            match jx, hj with
            | 0, hj =>
              simp at hj; subst hj
              rw [Addr.add_mid]
              exact Blk.cell (Blk.new wq 29 #[.slice Au j cu]) 0
          case c2 => intro u hu; simp at hu; subst hu; rfl
          intro v5 w5 hown5 hgrow _
          have hR4 := hR3.snoc hO3
          have hR5 := (hR4.ext ((Ext.refl wq).alloc (.cells #[.slice Au j cu] 29))).kept (hout3.alloc (.cells #[.slice Au j cu] 29)) hgrow (by decide)
          have hE5 : Ext w w5 := (hE3.alloc (.cells #[.slice Au j cu] 29)).grown hgrow (by have := hE3.size; simp; omega) (fun g hg => (hout3.lt g hg).1)
          obtain ⟨A5, c5, rfl⟩ := own_slice hown5
          clear hR3 hR4 hout3 hE3 hgrow hO3
          go_wp2_with fail
          go_roundw
          case rel =>
            refine ⟨k + 1, _, vs ++ [.slice Au j cu], rfl, Hd1.out (by omega), by rw [List.length_append, Hvl.out]; rfl, ?_, hown5, ?_, hE5⟩
            · rw [← Hvl.out, List.getElem?_append_right (Nat.le_refl _)]
              simp
            · rw [Hls1.out, Hrow.out]
              exact hR5
          case measure =>
            simp only [slLen]
            omega
    · have h2I : ¬ (1 : Int) < (r.length : Int) := by omega
      have hkd := Hd0.out (by omega)
      have hlk : levK l k = ls := by rw [Hls.out, hkd]; rfl
      have hR2 : Rows_ wo w.heap.size vs ls := by rw [← hlk]; exact hR
      have Hres : wo.ownsRow w.heap.size 29 1 (.slice Ao (k + 1) co) vs.length vs := by rw [Hvl.out]; exact hout
      clear hlk hkd hR hout Hkl Hls1
      go_wp2_with fail
      go_ret
      exact ⟨_, rfl, vs, Hres, hR2, hE⟩

end Go.Proofs.YtlcimlencoaiiaaDoor
