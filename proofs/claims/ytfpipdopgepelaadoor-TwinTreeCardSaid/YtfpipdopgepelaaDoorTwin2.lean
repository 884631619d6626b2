/-
  Twins: the walks of twin's side, first and Data.
-/
import Derived.Test.YtfpipdopgepelaaDoorTwin1
set_option linter.unusedVariables false
set_option maxRecDepth 100000
set_option linter.unusedSimpArgs false
namespace Go.Proofs.YtfpipdopgepelaaDoor
open Go.ChangeShapes Go.WideShapes Go.ChangeAt Go.RowKit
attribute [local go_sem] bs_size bs_toList2 bs_append bs_extract_end bs_extract_begin bs_get wrap64_b grow_cell grow_frozen

/-- The first twins at one place. -/
def firstO (a b : List (List UInt8)) : Option (List UInt8 × List UInt8) := Way.first shaOf a b
def twC (o : Option (List UInt8 × List UInt8)) : Array Value := #[.string (bs (o.getD ([], [])).1), .string (bs (o.getD ([], [])).2)]
theorem first_step (a b : List (List UInt8)) (k : Nat) (h1 : k < a.length) (h2 : k < b.length) : firstO (a.drop k) (b.drop k) = if areB a[k] b[k] then some (a[k], b[k]) else firstO (a.drop (k + 1)) (b.drop (k + 1)) := by
  unfold firstO Way.first
  rw [List.drop_eq_getElem_cons h1, List.drop_eq_getElem_cons h2, List.zip_cons_cons, List.find?_cons, areB_is]
  split <;> rename_i h <;> rw [h] <;> rfl
theorem first_end (a b : List (List UInt8)) (k : Nat) (h : a.length ≤ k ∨ b.length ≤ k) : firstO (a.drop k) (b.drop k) = none := by
  unfold firstO Way.first
  rcases h with h | h
  · rw [List.drop_of_length_le h]; rfl
  · rw [List.drop_of_length_le h, List.zip_nil_right]; rfl
theorem first_are {a b : List (List UInt8)} {p : List UInt8 × List UInt8} (h : firstO a b = some p) : areB p.1 p.2 = true := by
  obtain ⟨h1, h2⟩ := Way.first_some shaOf h
  unfold areB
  have : (p.1 == p.2) = false := by rw [beq_eq_false_iff_ne]; exact h1
  rw [this, h2]
  simp
theorem first_mem {a b : List (List UInt8)} {p : List UInt8 × List UInt8} (h : firstO a b = some p) : p.1 ∈ a ∧ p.2 ∈ b := by
  have := List.mem_of_find?_eq_some h
  exact List.of_mem_zip (a := p.1) (b := p.2) this
set_option maxHeartbeats 4000000 in
theorem side_calls (a b : List (List UInt8)) (ha : ∀ s ∈ a, s.length ≤ 4611686018427380000) (hb : ∀ s ∈ b, s.length ≤ 4611686018427380000) (hal : a.length ≤ 1000000) (hbl : b.length ≤ 1000000) (A1 A2 : Option Addr) (c1 c2 : Nat) (g B : Nat) (h0 : 0 ≠ g) (hBg : B ≤ g) (w : World) (KW : Keys w) (hra : Rd w B A1 (a.map strV)) (hrb : Rd w B A2 (b.map strV))
    (hF : Blk w g 57 #[.string (bs []), .string (bs [])]) :
    Calls Tryd.prog 77 #[.slice A1 a.length c1, .slice A2 b.length c2, .func (Fn.func 78) #[] #[.pointer (some ⟨g, 0, none⟩)]] w fun e w' => e = .returned (.tuple #[]) ∧ Blk w' g 57 (twC (firstO a b)) ∧ Upd g w w' := by
  obtain ⟨R, hR⟩ : ∃ R, R = firstO a b := ⟨_, rfl⟩
  rw [← hR]
  have HR := Lib.hid hR
  clear hR
  have hgl := hF.lt
  go_enter Tryd.func77, Tryd.ntmps77
  go_step3
  go_wp2_with fail
  go_step3
  go_wp2_with fail
  go_loopw [6, 7, 10] (fun _ _ s10 wr => ∃ k : Nat, k ≤ a.length ∧ s10 = .int .i64 (k : Int) ∧ R = firstO (a.drop k) (b.drop k) ∧ Blk wr g 57 #[.string (bs []), .string (bs [])] ∧ Upd g w wr) (fun _ _ s10 _ => a.length - (intOf s10).toNat)
  case atStart => exact ⟨0, Nat.zero_le _, rfl, HR.out, hF, Upd.refl _ _⟩
  case round =>
    obtain ⟨wo, rfl⟩ : ∃ wo : World, wo = wr := ⟨_, rfl⟩
    obtain ⟨k, hk, rfl, hRk, hF, hU⟩ := hrel
    have hKp : Keep (fun j => j ≠ g) w wo := Keep.of_upd hU (fun h => h rfl)
    have Ko : Keys wo := KW.keep hKp h0
    have hgo := hF.lt
    by_cases hlt : k < a.length
    · have hlI : (k : Int) < (a.length : Int) := by omega
      obtain ⟨b1, o1, rfl, hb1, hm1⟩ := hra (map_ne strV hlt)
      have hbl1 : b1 < w.heap.size := by omega
      have q1 : wo.cell? ⟨b1, o1 + k, none⟩ = some (strV a[k]) := (World.cell?_of_block (hKp.block b1 hbl1 (by omega))).trans (hm1 k (strV a[k]) (by simp [hlt]))
      have hbo1 : b1 < wo.heap.size := Nat.lt_of_lt_of_le hbl1 hKp.size
      have hs := ha a[k] (List.getElem_mem hlt)
      by_cases hlb : k < b.length
      · have hbI : (k : Int) < (b.length : Int) := by omega
        have d2 : decide ((b.length : Int) ≤ (k : Int)) = false := decide_eq_false (by omega)
        obtain ⟨b2, o2, rfl, hb2, hm2⟩ := hrb (map_ne strV hlb)
        have hbl2 : b2 < w.heap.size := by omega
        have q2 : wo.cell? ⟨b2, o2 + k, none⟩ = some (strV b[k]) := (World.cell?_of_block (hKp.block b2 hbl2 (by omega))).trans (hm2 k (strV b[k]) (by simp [hlb]))
        have hbo2 : b2 < wo.heap.size := Nat.lt_of_lt_of_le hbl2 hKp.size
        have ht := hb b[k] (List.getElem_mem hlb)
        have Hst := Lib.hid (hRk.trans (first_step a b k hlt hlb))
        clear hRk hm1 hm2
        generalize a[k] = s at *
        generalize b[k] = t at *
        obtain ⟨r, hr⟩ : ∃ r, r = areB s t := ⟨_, rfl⟩
        have Hr := Lib.hid hr
        clear hr
        go_wp2_with fail
        refine (firstTurn_calls s t hs ht g wo Ko hF).mono ?_; rw [← Hr.out]; rintro e w5 ⟨rfl, hN, hU5⟩
        have hU2 := hU.trans hU5
        clear hF hKp hU hU5
        cases r
        · have Hs2 := Lib.hid (show R = _ from Hst.out.trans (if_neg (by rw [← Hr.out]; simp)))
          simp only [Bool.false_eq_true, if_false] at hN
          go_wp2_with fail
          go_roundw
          case rel =>
            first
              | exact ⟨k + 1, by omega, by go_num, Hs2.out, hN, hU2⟩
              | (repeat apply Exists.intro
                 refine ⟨?_, rfl⟩
                 exact ⟨k + 1, by omega, by go_num, Hs2.out, hN, hU2⟩)
          case measure => simp [intOf]; omega
        · have Hs2 := Lib.hid (show R = _ from Hst.out.trans (if_pos Hr.out.symm))
          simp only [if_true] at hN
          go_wp2_with fail
          try rw [Exit.noGoto_normal]
          go_end0
          exact ⟨rfl, by rw [Hs2.out]; exact hN, hU2⟩
      · have d2 : decide ((b.length : Int) ≤ (k : Int)) = true := decide_eq_true (by omega)
        have hRn := hRk.trans (first_end a b k (.inr (by omega)))
        have HRn := Lib.hid hRn
        clear hRk hRn
        generalize a[k] = s at *
        go_wp2_with fail
        try rw [Exit.noGoto_normal]
        go_end0
        exact ⟨rfl, by rw [HRn.out]; exact hF, hU⟩
    · have hRn := hRk.trans (first_end a b k (.inl (by omega)))
      have HRn := Lib.hid hRn
      have hlI : ¬ (k : Int) < (a.length : Int) := by omega
      clear hRk hRn
      go_wp2_with fail
      try rw [Exit.noGoto_normal]
      go_end0
      exact ⟨rfl, by rw [HRn.out]; exact hF, hU⟩

theorem size_twins : (Tryd.prog.info? 57).map (·.size) = some 2 := by kernel_rfl
theorem first_flag (a b : List (List UInt8)) : areB ((firstO a b).getD ([], [])).1 ((firstO a b).getD ([], [])).2 = (firstO a b).isSome := by
  cases h : firstO a b with
  | none => exact areB_same []
  | some p => exact first_are h

set_option maxHeartbeats 2000000 in
theorem first_calls (a b : List (List UInt8)) (ha : ∀ s ∈ a, s.length ≤ 4611686018427380000) (hb : ∀ s ∈ b, s.length ≤ 4611686018427380000) (hal : a.length ≤ 1000000) (hbl : b.length ≤ 1000000) (A1 A2 : Option Addr) (c1 c2 : Nat) (w : World) (KW : Keys w) (hra : Rd w w.heap.size A1 (a.map strV)) (hrb : Rd w w.heap.size A2 (b.map strV)) :
    Calls Tryd.prog 61 #[.slice A1 a.length c1, .slice A2 b.length c2] w fun e w' => e = .returned (.tuple #[.agg (twC (firstO a b)), .bool (firstO a b).isSome]) ∧ Ext w w' := by
  have hfl := first_flag a b
  have hlen : ((firstO a b).getD ([], [])).1.length ≤ 4611686018427380000 ∧ ((firstO a b).getD ([], [])).2.length ≤ 4611686018427380000 := by
    cases h : firstO a b with
    | none => exact ⟨by simp, by simp⟩
    | some p => exact ⟨ha _ (first_mem h).1, hb _ (first_mem h).2⟩
  unfold twC
  have HFx := Lib.hid (side_calls a b ha hb hal hbl A1 A2 c1 c2)
  unfold twC at HFx
  obtain ⟨p, hp⟩ : ∃ p, p = (firstO a b).getD ([], []) := ⟨_, rfl⟩
  rw [← hp] at hfl hlen HFx ⊢
  generalize (firstO a b).isSome = fl at *
  clear hp
  obtain ⟨s, t⟩ := p
  obtain ⟨hs, ht⟩ := hlen
  dsimp only at hs ht hfl HFx ⊢
  have HFl := Lib.hid hfl
  clear hfl
  go_enter Tryd.func61, Tryd.ntmps61
  go_wp2_with fail
  have hR0 : Blk ((w.alloc (.cells #[.string (bs []), .string (bs [])] 57)).alloc (.cells #[.string (bs []), .string (bs [])] 57)) w.heap.size 57 #[.string (bs []), .string (bs [])] := Blk.alloc (Blk.new _ _ _) _
  have hF0 : Blk ((w.alloc (.cells #[.string (bs []), .string (bs [])] 57)).alloc (.cells #[.string (bs []), .string (bs [])] 57)) (w.heap.size + 1) 57 #[.string (bs []), .string (bs [])] := by
    have := Blk.new (w.alloc (.cells #[.string (bs []), .string (bs [])] 57)) 57 #[.string (bs []), .string (bs [])]
    rw [alloc_size] at this
    exact this
  have hE0 : Ext w ((w.alloc (.cells #[.string (bs []), .string (bs [])] 57)).alloc (.cells #[.string (bs []), .string (bs [])] 57)) := ((Ext.refl w).alloc _).alloc _
  change Calls _ _ _ ((w.alloc (.cells #[.string (bs []), .string (bs [])] 57)).alloc (.cells #[.string (bs []), .string (bs [])] 57)) _
  generalize (w.alloc (.cells #[.string (bs []), .string (bs [])] 57)).alloc (.cells #[.string (bs []), .string (bs [])] 57) = w0 at *
  refine (HFx.out (w.heap.size + 1) w.heap.size (by omega) (by omega) w0 (KW.ext hE0) (hra.below hE0 (Nat.le_refl _)) (hrb.below hE0 (Nat.le_refl _)) hF0).mono ?_; rintro e w1 ⟨rfl, hF1, hU1⟩
  have hR1 := Blk.kept (S := fun k => k ≠ w.heap.size + 1) hR0 (.of_upd hU1 (fun h => h rfl)) (by omega)
  have hE1 : Ext w w1 := hE0.upd hU1 (by omega)
  clear hR0 hF0 hE0 hU1 hra hrb HFx
  have c0 : w1.cell? ⟨w.heap.size + 1, 0, none⟩ = some (.string (bs s)) := Blk.cell hF1 0
  have c1 : w1.cell? ⟨w.heap.size + 1, 1, none⟩ = some (.string (bs t)) := Blk.cell hF1 1
  have hgl := hF1.lt
  have hrl := hR1.lt
  have hKs : ∀ x : More w1, Keys (grow w1 x) := fun x => KW.ext (hE1.trans (grow_ext x))
  go_wp2_with fail
  refine region_mix 3 (by kernel_rfl) (by kernel_rfl) (fun x => ?_); simp only [List.take_succ_cons, List.take_zero, List.drop_succ_cons, List.drop_zero]
  repeat (first | (refine mix_quiet (by rfl) (by rfl) (fun K hK => ?_); go_big_quiet_op; refine hK _ ?_; clear hK K) | (refine mix_skip (by rfl) ?_; simp only [Act.put, List.setIfInBounds_toArray, List.set_cons_zero, List.set_cons_succ]))
  (refine mix_loud (by rfl) (by rfl) (fun K E hK => ?_); go_big_op)
  refine (Are_calls s t hs ht _ (hKs _)).mono ?_; rw [HFl.out]; rintro e w3 ⟨rfl, hd⟩
  obtain ⟨x', rfl⟩ := more_ext _ hd; clear hd
  refine hK _ _ ⟨_, rfl⟩ ?_; clear hK K E
  refine mix_nil ?_
  have hR2 := Blk.below hR1 (grow_ext x') (Blk.lt hR1)
  have hE2 := hE1.trans (grow_ext x')
  clear hR1 hE1 hF1 c0 c1 hKs
  generalize grow w1 x' = w2 at *
  have f0 := hR2.frozen 0
  have f1 := hR2.frozen 1
  have d0 : w2.cell? ⟨w.heap.size, 0, none⟩ = some (.string (bs [])) := Blk.cell hR2 0
  have d1 : w2.cell? ⟨w.heap.size, 1, none⟩ = some (.string (bs [])) := Blk.cell hR2 1
  have hR3 : Blk ((w2.setCell ⟨w.heap.size, 0, none⟩ (.string (bs s))).setCell ⟨w.heap.size, 1, none⟩ (.string (bs t))) w.heap.size 57 #[.string (bs s), .string (bs t)] := Blk.set_ (Blk.set_ hR2 0 _) 1 _
  have hE3 : Ext w ((w2.setCell ⟨w.heap.size, 0, none⟩ (.string (bs s))).setCell ⟨w.heap.size, 1, none⟩ (.string (bs t))) := (hE2.setCell (Nat.le_refl _) _).setCell (Nat.le_refl _) _
  go_wp2_with fail
  generalize (w2.setCell ⟨w.heap.size, 0, none⟩ (.string (bs s))).setCell ⟨w.heap.size, 1, none⟩ (.string (bs t)) = w3 at *
  (try simp only [Exit.inBlock, Exit.then]); refine bodyPost_ret (res_cell_t rfl _ _ w.heap.size 57 _ _ rfl hR3 Tryd.underlying57 rfl size_twins) rfl ?_
  exact ⟨rfl, hE3⟩

end Go.Proofs.YtfpipdopgepelaaDoor
