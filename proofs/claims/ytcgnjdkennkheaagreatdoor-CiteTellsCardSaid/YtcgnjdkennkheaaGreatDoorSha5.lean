/-
  The walk of (*sha.Hash).Write.
-/
import Derived.Test.YtcgnjdkennkheaaGreatDoorSha4
import Derived.Test.YtcgnjdkennkheaaGreatDoorMix2
set_option linter.unusedVariables false
set_option maxRecDepth 100000
set_option linter.unusedSimpArgs false
namespace Go.Proofs.YtcgnjdkennkheaaGreatDoor
open Go.RowKit
attribute [local go_sem] bs_size bs_toList2 bs_append bs_extract_end bs_extract_begin bs_get wrap64_b grow_cell grow_frozen

/-- A hash's cells. -/
def hashV (b : Bool) (st : List Int) (rest : List UInt8) (n : Int) : List Value := .bool b :: .int .u32 (wat st 0) :: .int .u32 (wat st 1) :: .int .u32 (wat st 2) :: .int .u32 (wat st 3) :: .int .u32 (wat st 4) :: .int .u32 (wat st 5) :: .int .u32 (wat st 6) :: .int .u32 (wat st 7) :: [.string (bs rest), .int .i64 n]
def HashV (w : World) (g : Nat) (b : Bool) (st : List Int) (rest : List UInt8) (n : Int) : Prop := Blk w g 167 (hashV b st rest n).toArray
/-- A hash to which all was written. -/
def HashAt (w : World) (g : Nat) (all : List UInt8) : Prop := HashV w g true (whole start all) (left all) all.length
/-- One that is new. -/
def HashNew (w : World) (g : Nat) : Prop := HashV w g false (zeros 8) [] 0
theorem start_length : start.length = 8 := rfl

theorem HashV.write {w : World} {g : Nat} {b : Bool} {st : List Int} {rest : List UInt8} {n : Int} (h : HashV w g b st rest n) (st' : List Int) (rest' : List UInt8) :
    HashV (((((((((w.setCell ⟨g, 1, none⟩ (.int .u32 (wat st' 0))).setCell ⟨g, 2, none⟩ (.int .u32 (wat st' 1))).setCell ⟨g, 3, none⟩ (.int .u32 (wat st' 2))).setCell ⟨g, 4, none⟩ (.int .u32 (wat st' 3))).setCell ⟨g, 5, none⟩ (.int .u32 (wat st' 4))).setCell ⟨g, 6, none⟩ (.int .u32 (wat st' 5))).setCell ⟨g, 7, none⟩ (.int .u32 (wat st' 6))).setCell ⟨g, 8, none⟩ (.int .u32 (wat st' 7))).setCell ⟨g, 9, none⟩ (.string (bs rest'))) g b st' rest' n := by
  have h1 := Blk.set_ h 1 (.int .u32 (wat st' 0))
  have h2 := Blk.set_ h1 2 (.int .u32 (wat st' 1))
  have h3 := Blk.set_ h2 3 (.int .u32 (wat st' 2))
  have h4 := Blk.set_ h3 4 (.int .u32 (wat st' 3))
  have h5 := Blk.set_ h4 5 (.int .u32 (wat st' 4))
  have h6 := Blk.set_ h5 6 (.int .u32 (wat st' 5))
  have h7 := Blk.set_ h6 7 (.int .u32 (wat st' 6))
  have h8 := Blk.set_ h7 8 (.int .u32 (wat st' 7))
  have h9 := Blk.set_ h8 9 (.string (bs rest'))
  simp only [hashV, List.setIfInBounds_toArray, List.set_cons_zero, List.set_cons_succ] at h9
  exact h9
theorem HashV.size_ {w : World} {g : Nat} {b : Bool} {st : List Int} {rest : List UInt8} {n : Int} (h : HashV w g b st rest n) (n' : Int) : HashV (w.setCell ⟨g, 10, none⟩ (.int .i64 n')) g b st rest n' := by
  have h1 := Blk.set_ h 10 (.int .i64 n')
  simp only [hashV, List.setIfInBounds_toArray, List.set_cons_zero, List.set_cons_succ] at h1
  exact h1

def begunW (w : World) (g : Nat) (st' : List Int) : World := (((((((((w.setCell ⟨g, 0, none⟩ (.bool true)).setCell ⟨g, 1, none⟩ (.int .u32 (wat st' 0))).setCell ⟨g, 2, none⟩ (.int .u32 (wat st' 1))).setCell ⟨g, 3, none⟩ (.int .u32 (wat st' 2))).setCell ⟨g, 4, none⟩ (.int .u32 (wat st' 3))).setCell ⟨g, 5, none⟩ (.int .u32 (wat st' 4))).setCell ⟨g, 6, none⟩ (.int .u32 (wat st' 5))).setCell ⟨g, 7, none⟩ (.int .u32 (wat st' 6))).setCell ⟨g, 8, none⟩ (.int .u32 (wat st' 7)))
theorem HashV.begun {w : World} {g : Nat} {b : Bool} {st : List Int} {rest : List UInt8} {n : Int} (h : HashV w g b st rest n) (st' : List Int) : HashV (begunW w g st') g true st' rest n := by
  have h0 := Blk.set_ h 0 (.bool true)
  have h1 := Blk.set_ h0 1 (.int .u32 (wat st' 0))
  have h2 := Blk.set_ h1 2 (.int .u32 (wat st' 1))
  have h3 := Blk.set_ h2 3 (.int .u32 (wat st' 2))
  have h4 := Blk.set_ h3 4 (.int .u32 (wat st' 3))
  have h5 := Blk.set_ h4 5 (.int .u32 (wat st' 4))
  have h6 := Blk.set_ h5 6 (.int .u32 (wat st' 5))
  have h7 := Blk.set_ h6 7 (.int .u32 (wat st' 6))
  have h8 := Blk.set_ h7 8 (.int .u32 (wat st' 7))
  simp only [hashV, List.setIfInBounds_toArray, List.set_cons_zero, List.set_cons_succ] at h8
  exact h8
theorem Upd.begun {g : Nat} {a b : World} (h : Upd g a b) (st' : List Int) : Upd g a (begunW b g st') :=
  ((((((((h.setCell (.inl rfl) _).setCell (.inl rfl) _).setCell (.inl rfl) _).setCell (.inl rfl) _).setCell (.inl rfl) _).setCell (.inl rfl) _).setCell (.inl rfl) _).setCell (.inl rfl) _).setCell (.inl rfl) _
theorem Keys.set_ {w : World} {g o : Nat} (K : Keys w) (hg0 : g ≠ 0) (v : Value) : Keys (w.setCell ⟨g, o, none⟩ v) := fun i hi => by
  rw [World.cell?_setCell_other _ _ _ _ (by simp [hg0])]
  exact K i hi
theorem Keys.begun {w : World} {g : Nat} (K : Keys w) (hg0 : g ≠ 0) (st' : List Int) : Keys (begunW w g st') :=
  ((((((((K.set_ hg0 _).set_ hg0 _).set_ hg0 _).set_ hg0 _).set_ hg0 _).set_ hg0 _).set_ hg0 _).set_ hg0 _).set_ hg0 _

set_option maxRecDepth 100000 in
theorem Write_nil (s : List UInt8) (w : World) : Calls Tryz.prog 110 #[.pointer none, .string (bs s)] w fun e w' => e = .returned (.int .i64 0) ∧ w = w' := by
  go_enter Tryz.func110, Tryz.ntmps110
  go_wp2
  go_ret
  exact ⟨rfl, rfl⟩

set_option maxRecDepth 100000 in
set_option maxHeartbeats 1000000 in
theorem Write_begun (s all : List UInt8) (g : Nat) (w : World) (K : Keys w) (hg : HashAt w g all) (hg0 : g ≠ 0) (hs : all.length + s.length ≤ 4611686018427387904) :
    Calls Tryz.prog 110 #[.pointer (some ⟨g, 0, none⟩), .string (bs s)] w fun e w' => e = .returned (.int .i64 s.length) ∧ HashAt w' g (all ++ s) ∧ Upd g w w' := by
  unfold HashAt at hg
  have hc := fun i => Blk.cell hg i
  have hf := fun i => Blk.frozen hg i
  have c0 := hc 0; have c1 := hc 1; have c2 := hc 2; have c3 := hc 3; have c4 := hc 4; have c5 := hc 5; have c6 := hc 6; have c7 := hc 7; have c8 := hc 8; have c9 := hc 9; have c10 := hc 10
  have f0 := hf 0; have f1 := hf 1; have f2 := hf 2; have f3 := hf 3; have f4 := hf 4; have f5 := hf 5; have f6 := hf 6; have f7 := hf 7; have f8 := hf 8; have f9 := hf 9; have f10 := hf 10
  simp only [hashV, List.getElem?_toArray, List.getElem?_cons_zero, List.getElem?_cons_succ] at c0 c1 c2 c3 c4 c5 c6 c7 c8 c9 c10
  clear hc hf
  have hgl : g < w.heap.size := hg.lt
  have hal : (all.length : Int) + (s.length : Int) ≤ 4611686018427387904 := by omega
  have hll := left_length all
  have hll2 : (left all).length ≤ 63 := by omega
  clear hll
  have hwl := whole_length start all start_length
  have hrs : (left all ++ s).length ≤ 9223372036854775807 := by simp; omega
  have hw := whole_append start all s
  have hl := left_append all s
  have Hw := Lib.hid hw; clear hw
  have Hl := Lib.hid hl; clear hl
  generalize whole start all = st at *
  generalize left all = rest at *
  have Hwl := Lib.hid hwl; clear hwl
  go_enter Tryz.func110, Tryz.ntmps110
  go_wp2_with fail
  have hg1 : HashV (w.setCell ⟨g, 10, none⟩ (.int .i64 ((all.length : Int) + (s.length : Int)))) g true st rest ((all.length : Int) + (s.length : Int)) := hg.size_ _
  have hU1 : Upd g w (w.setCell ⟨g, 10, none⟩ (.int .i64 ((all.length : Int) + (s.length : Int)))) := (Upd.refl g w).setCell (.inl rfl) _
  have K1 : Keys (w.setCell ⟨g, 10, none⟩ (.int .i64 ((all.length : Int) + (s.length : Int)))) := fun i hi => by
    rw [World.cell?_setCell_other _ _ _ _ (by simp [hg0])]
    exact K i hi
  clear c0 c1 c2 c3 c4 c5 c6 c7 c8 c9 c10 f0 f1 f2 f3 f4 f5 f6 f7 f8 f9 f10 hgl hg
  generalize w.setCell ⟨g, 10, none⟩ (.int .i64 ((all.length : Int) + (s.length : Int))) = w1 at *
  have hc := fun i => Blk.cell hg1 i
  have c1 := hc 1; have c2 := hc 2; have c3 := hc 3; have c4 := hc 4; have c5 := hc 5; have c6 := hc 6; have c7 := hc 7; have c8 := hc 8; have c9 := hc 9
  simp only [hashV, List.getElem?_toArray, List.getElem?_cons_zero, List.getElem?_cons_succ] at c1 c2 c3 c4 c5 c6 c7 c8 c9
  clear hc
  have hgl : g < w1.heap.size := hg1.lt
  refine region_bar0 18 (by kernel_rfl) (by kernel_rfl) (fun x => ?_)
  have h8 : whole (eight st) (rest ++ s) = eight (whole start (all ++ s)) := by
    rw [eight_eq Hwl.out, Hw.out, eight_eq (whole_length _ _ start_length)]
  have H8 := Lib.hid h8; clear h8
  have f1 := Blk.frozen hg1 1; have f2 := Blk.frozen hg1 2; have f3 := Blk.frozen hg1 3; have f4 := Blk.frozen hg1 4; have f5 := Blk.frozen hg1 5; have f6 := Blk.frozen hg1 6; have f7 := Blk.frozen hg1 7; have f8 := Blk.frozen hg1 8; have f9 := Blk.frozen hg1 9
  repeat (first | (refine bar_quiet (by decide +kernel) (by rfl) (by rfl) (fun K hK => ?_); go_big_quiet_op; refine hK _ ?_; clear hK K) | (refine bar_still (by rfl) (by rfl) (fun K hK => ?_); go_big_quiet_op; refine hK _ ?_; clear hK K) | (refine bar_skip (by rfl) ?_; simp only [Act.put, List.setIfInBounds_toArray, List.set_cons_zero, List.set_cons_succ]))
  (refine bar_loud (by rfl) (by rfl) (fun K E hK => ?_); go_big_op)
  go_at_call 121
  refine (blocks_calls (eight st) (rest ++ s) rfl hrs (grow w1 x) (K1.ext (grow_ext x))).mono ?_
  rintro e w3 ⟨he, hE3⟩
  rw [H8.out, Hl.out] at he
  subst he
  obtain ⟨x3, rfl⟩ := more_ext x hE3; clear hE3
  refine hK _ _ ⟨_, rfl⟩ ?_; clear hK K E
  simp only [eight, List.map_cons, List.map_nil, wordV]
  repeat (first | (refine bar_quiet (by decide +kernel) (by rfl) (by rfl) (fun K hK => ?_); go_big_quiet_op; refine hK _ ?_; clear hK K) | (refine bar_still (by rfl) (by rfl) (fun K hK => ?_); go_big_quiet_op; refine hK _ ?_; clear hK K) | (refine bar_skip (by rfl) ?_; simp only [Act.put, List.setIfInBounds_toArray, List.set_cons_zero, List.set_cons_succ]))
  generalize hnst : whole start (all ++ s) = nst at *
  generalize hnl : left (all ++ s) = nl at *
  have Hnst := Lib.hid hnst; clear hnst
  have Hnl := Lib.hid hnl; clear hnl
  (refine bar_last (by decide) (by rfl) (by rfl) (fun K E hK => ?_); go_big_op; refine hK _ _ ?_; clear hK K E)
  repeat (first | (refine bar_quiet (by decide +kernel) (by rfl) (by rfl) (fun K hK => ?_); go_big_quiet_op; refine hK _ ?_; clear hK K) | (refine bar_still (by rfl) (by rfl) (fun K hK => ?_); go_big_quiet_op; refine hK _ ?_; clear hK K) | (refine bar_skip (by rfl) ?_; simp only [Act.put, List.setIfInBounds_toArray, List.set_cons_zero, List.set_cons_succ]))
  (refine bar_last (by decide) (by rfl) (by rfl) (fun K E hK => ?_); go_big_op; refine hK _ _ ?_; clear hK K E)
  refine bar_nil ?_
  go_wp2_with fail
  go_ret
  refine ⟨rfl, ?_, ?_⟩
  · unfold HashAt
    rw [Hnst.out, Hnl.out, List.length_append, Int.natCast_add]
    exact HashV.write (Blk.grow x3 hg1) nst nl
  · exact (((((((((hU1.ext (grow_ext x3)).setCell (.inl rfl) _).setCell (.inl rfl) _).setCell (.inl rfl) _).setCell (.inl rfl) _).setCell (.inl rfl) _).setCell (.inl rfl) _).setCell (.inl rfl) _).setCell (.inl rfl) _).setCell (.inl rfl) _

set_option maxRecDepth 100000 in
set_option maxHeartbeats 1000000 in
theorem Write_new (s : List UInt8) (g : Nat) (w : World) (K : Keys w) (hg : HashNew w g) (hg0 : g ≠ 0) (hs : s.length ≤ 4611686018427387904) :
    Calls Tryz.prog 110 #[.pointer (some ⟨g, 0, none⟩), .string (bs s)] w fun e w' => e = .returned (.int .i64 s.length) ∧ HashAt w' g s ∧ Upd g w w' := by
  unfold HashNew at hg
  have hc := fun i => Blk.cell hg i
  have c0 := hc 0; have c10 := hc 10
  simp only [hashV, List.getElem?_toArray, List.getElem?_cons_zero, List.getElem?_cons_succ] at c0 c10
  clear hc
  have hgl : g < w.heap.size := hg.lt
  have hal : (s.length : Int) ≤ 4611686018427387904 := by omega
  have hrs : s.length ≤ 9223372036854775807 := by omega
  go_enter Tryz.func110, Tryz.ntmps110
  go_wp2_with fail
  go_at_call 120
  refine (Start_calls _).mono ?_; rintro e w2 ⟨rfl, hE2⟩
  have hg2 : HashV w2 g false (zeros 8) [] 0 := Blk.below hg hE2 hgl
  have hU2 : Upd g w w2 := .of_ext hE2
  have K2 := K.ext hE2
  clear c0 c10 hgl hg hE2
  simp only [start, List.map_cons, List.map_nil, wordV]
  have hc := fun i => Blk.cell hg2 i
  have c0 := hc 0; have c1 := hc 1; have c2 := hc 2; have c3 := hc 3; have c4 := hc 4; have c5 := hc 5; have c6 := hc 6; have c7 := hc 7; have c8 := hc 8; have c9 := hc 9; have c10 := hc 10
  simp only [hashV, List.getElem?_toArray, List.getElem?_cons_zero, List.getElem?_cons_succ] at c0 c1 c2 c3 c4 c5 c6 c7 c8 c9 c10
  clear hc
  have f0 := Blk.frozen hg2 0; have f1 := Blk.frozen hg2 1; have f2 := Blk.frozen hg2 2; have f3 := Blk.frozen hg2 3; have f4 := Blk.frozen hg2 4; have f5 := Blk.frozen hg2 5; have f6 := Blk.frozen hg2 6; have f7 := Blk.frozen hg2 7; have f8 := Blk.frozen hg2 8; have f9 := Blk.frozen hg2 9; have f10 := Blk.frozen hg2 10
  go_wp2_with fail
  have hg3 := (HashV.begun hg2 start).size_ (s.length : Int)
  have hU3 := (Upd.begun hU2 start).setCell (p := ⟨g, 10, none⟩) (.inl rfl) (.int .i64 (s.length : Int))
  have K3 := (K2.begun hg0 start).set_ (o := 10) hg0 (.int .i64 (s.length : Int))
  change Code.wp _ _ _ _ ((begunW w2 g start).setCell ⟨g, 10, none⟩ (.int .i64 (s.length : Int)))
  clear c0 c1 c2 c3 c4 c5 c6 c7 c8 c9 c10 f0 f1 f2 f3 f4 f5 f6 f7 f8 f9 f10 hg2 hU2 K2
  generalize (begunW w2 g start).setCell ⟨g, 10, none⟩ (.int .i64 (s.length : Int)) = w1 at *
  have hc := fun i => Blk.cell hg3 i
  have c1 := hc 1; have c2 := hc 2; have c3 := hc 3; have c4 := hc 4; have c5 := hc 5; have c6 := hc 6; have c7 := hc 7; have c8 := hc 8; have c9 := hc 9
  simp only [hashV, List.getElem?_toArray, List.getElem?_cons_zero, List.getElem?_cons_succ] at c1 c2 c3 c4 c5 c6 c7 c8 c9
  clear hc
  have hgl : g < w1.heap.size := hg3.lt
  have h8 : whole (eight start) s = eight (whole start s) := by
    rw [eight_eq start_length, eight_eq (whole_length _ _ start_length)]
  have H8 := Lib.hid h8; clear h8
  have f1 := Blk.frozen hg3 1; have f2 := Blk.frozen hg3 2; have f3 := Blk.frozen hg3 3; have f4 := Blk.frozen hg3 4; have f5 := Blk.frozen hg3 5; have f6 := Blk.frozen hg3 6; have f7 := Blk.frozen hg3 7; have f8 := Blk.frozen hg3 8; have f9 := Blk.frozen hg3 9
  refine region_bar0 18 (by kernel_rfl) (by kernel_rfl) (fun x => ?_)
  repeat (first | (refine bar_quiet (by decide +kernel) (by rfl) (by rfl) (fun K hK => ?_); go_big_quiet_op; refine hK _ ?_; clear hK K) | (refine bar_still (by rfl) (by rfl) (fun K hK => ?_); go_big_quiet_op; refine hK _ ?_; clear hK K) | (refine bar_skip (by rfl) ?_; simp only [Act.put, List.setIfInBounds_toArray, List.set_cons_zero, List.set_cons_succ]))
  (refine bar_loud (by rfl) (by rfl) (fun K E hK => ?_); go_big_op)
  go_at_call 121
  refine (blocks_calls (eight start) s rfl hrs (grow w1 x) (K3.ext (grow_ext x))).mono ?_
  rintro e w3 ⟨he, hE3⟩
  rw [H8.out] at he
  subst he
  obtain ⟨x3, rfl⟩ := more_ext x hE3; clear hE3
  refine hK _ _ ⟨_, rfl⟩ ?_; clear hK K E
  simp only [eight, List.map_cons, List.map_nil, wordV]
  repeat (first | (refine bar_quiet (by decide +kernel) (by rfl) (by rfl) (fun K hK => ?_); go_big_quiet_op; refine hK _ ?_; clear hK K) | (refine bar_still (by rfl) (by rfl) (fun K hK => ?_); go_big_quiet_op; refine hK _ ?_; clear hK K) | (refine bar_skip (by rfl) ?_; simp only [Act.put, List.setIfInBounds_toArray, List.set_cons_zero, List.set_cons_succ]))
  generalize hnst : whole start s = nst at *
  generalize hnl : left s = nl at *
  have Hnst := Lib.hid hnst; clear hnst
  have Hnl := Lib.hid hnl; clear hnl
  (refine bar_last (by decide) (by rfl) (by rfl) (fun K E hK => ?_); go_big_op; refine hK _ _ ?_; clear hK K E)
  repeat (first | (refine bar_quiet (by decide +kernel) (by rfl) (by rfl) (fun K hK => ?_); go_big_quiet_op; refine hK _ ?_; clear hK K) | (refine bar_still (by rfl) (by rfl) (fun K hK => ?_); go_big_quiet_op; refine hK _ ?_; clear hK K) | (refine bar_skip (by rfl) ?_; simp only [Act.put, List.setIfInBounds_toArray, List.set_cons_zero, List.set_cons_succ]))
  (refine bar_last (by decide) (by rfl) (by rfl) (fun K E hK => ?_); go_big_op; refine hK _ _ ?_; clear hK K E)
  refine bar_nil ?_
  go_wp2_with fail
  go_ret
  refine ⟨rfl, ?_, ?_⟩
  · unfold HashAt
    rw [Hnst.out, Hnl.out]
    exact HashV.write (Blk.grow x3 hg3) nst nl
  · exact (((((((((hU3.ext (grow_ext x3)).setCell (.inl rfl) _).setCell (.inl rfl) _).setCell (.inl rfl) _).setCell (.inl rfl) _).setCell (.inl rfl) _).setCell (.inl rfl) _).setCell (.inl rfl) _).setCell (.inl rfl) _).setCell (.inl rfl) _

end Go.Proofs.YtcgnjdkennkheaaGreatDoor
