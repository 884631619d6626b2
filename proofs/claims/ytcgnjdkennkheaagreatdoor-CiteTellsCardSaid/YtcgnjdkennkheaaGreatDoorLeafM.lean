/-
  The walks of leaf.Split, slices.Clone, leaf.above; of the document's Split and Same.
  The walk of leaf.above.
  The walk of leaf.Levels.
  The walks of leaf.Root, of the document's Root and Same.
  A slice literal of hashes.
  The chapter's examples of leaves, reckoned; at most 20 hashes.
  The walk of the document's Levels.
-/
import Derived.Test.YtcgnjdkennkheaaGreatDoorLeaf1
import Derived.Test.YtcgnjdkennkheaaGreatDoorShelf
import Derived.Test.YtcgnjdkennkheaaGreatDoorEqA
import Derived.Great.BuildSlice
import Derived.Laws.AppendOwnNone
set_option linter.unusedVariables false
set_option maxRecDepth 100000
set_option linter.unusedSimpArgs false
set_option linter.unusedSectionVars false
namespace Go.Proofs.YtcgnjdkennkheaaGreatDoor
open Go.RowKit
attribute [local go_sem] bs_size bs_toList2 bs_append bs_extract_end bs_extract_begin bs_get wrap64_b grow_cell grow_frozen

theorem bitLen_log : ∀ (f x : Nat), x ≠ 0 → x < 2 ^ f → f ≤ 64 → Lib.bitLen x = x.log2 + 1 := by
  intro f
  induction f with
  | zero => intro x h0 h _; rw [Nat.pow_zero] at h; omega
  | succ f ih =>
    intro x h0 hx hf
    have h64 : x < 2 ^ 64 := Nat.lt_of_lt_of_le hx (Nat.pow_le_pow_right (by omega) hf)
    rw [Lib.bitLen_half x h0 h64, Nat.log2_def]
    by_cases h1 : x / 2 = 0
    · rw [h1, if_neg (by omega)]
      rfl
    · rw [if_pos (by omega), ih (x / 2) h1 (by rw [Nat.pow_succ] at hx; omega) (by omega)]
      omega
def splitI (n : Int) : Int := if n < 2 then 0 else (Tree.split n.toNat : Int)
theorem splitI_nat (n : Nat) (h : 2 ≤ n) : splitI n = (Tree.split n : Int) := by
  unfold splitI
  rw [if_neg (by omega)]
  rfl
set_option maxHeartbeats 400000 in
theorem Split_calls (n : Int) (h0 : -9223372036854775808 ≤ n) (h1 : n ≤ 9223372036854775807) (w : World) : Calls Tryz.prog 127 #[.int .i64 n] w fun e w' => e = .returned (.int .i64 (splitI n)) ∧ w = w' := by
  by_cases h : n < 2
  · have hs : splitI n = 0 := if_pos h
    have Hs := Lib.hid hs; clear hs
    go_enter Tryz.func127, Tryz.ntmps127
    go_wp2
    go_ret
    exact ⟨ret_int (by rw [Hs.out]), rfl⟩
  · obtain ⟨m, rfl⟩ : ∃ m : Nat, n = (m : Int) := ⟨n.toNat, by omega⟩
    have hs : splitI m = ((2 ^ (m - 1).log2 : Nat) : Int) := by rw [splitI_nat m (by omega)]; unfold Tree.split; rw [if_neg (by omega)]
    have hl := bitLen_log 64 (m - 1) (by omega) (by omega) (by omega)
    have hk : (m - 1).log2 < 63 := by
      rw [Nat.log2_lt (by omega)]
      omega
    have hu : IntKind.u64.wrap ((m : Int) - 1) = (m : Int) - 1 := u64_eq rfl (by omega) (by omega)
    have hnn : ((m : Int) - 1).toNat = m - 1 := by omega
    generalize (m - 1).log2 = k at *
    have hp : 2 ^ k ≤ 2 ^ 62 := Nat.pow_le_pow_right (by omega) (by omega)
    have hpp : 0 < 2 ^ k := Nat.pow_pos (by omega)
    have hb1 : (1 : Int) * 2 ^ k ≤ 4611686018427387904 := by
      have : ((2 ^ k : Nat) : Int) ≤ 4611686018427387904 := by omega
      simpa using this
    have hb2 : (2 : Int) ^ k ≤ 4611686018427387904 := by simpa using hb1
    have hb3 : (0 : Int) ≤ 2 ^ k := by
      have : (0 : Int) ≤ ((2 ^ k : Nat) : Int) := by omega
      simpa using this
    have Hs := Lib.hid hs; clear hs
    have Hl := Lib.hid hl; clear hl
    have Hnn := Lib.hid hnn; clear hnn
    clear hp hpp
    go_enter Tryz.func127, Tryz.ntmps127
    go_wp2_with fail
    refine (Tryz.bits_Len ((m : Int) - 1) w (by omega) (by omega)).mono ?_; rintro e w' ⟨he, rfl⟩
    rw [Hnn.out, Hl.out] at he
    subst he
    go_wp2_with fail
    go_ret
    exact ⟨ret_int (by rw [Hs.out]; simp), rfl⟩

set_option maxHeartbeats 400000 in
theorem refSplit_calls (n : Int) (h0 : -9223372036854775808 ≤ n) (h1 : n ≤ 9223372036854775807) (w : World) : Calls Tryz.prog 59 #[.int .i64 n] w fun e w' => e = .returned (.int .i64 (splitI n)) ∧ w = w' := by
  by_cases h : n < 2
  · have hs : splitI n = 0 := if_pos h
    have Hs := Lib.hid hs; clear hs
    go_enter Tryz.func59, Tryz.ntmps59
    go_wp2
    go_ret
    exact ⟨ret_int (by rw [Hs.out]), rfl⟩
  · obtain ⟨m, rfl⟩ : ∃ m : Nat, n = (m : Int) := ⟨n.toNat, by omega⟩
    have hs : splitI m = (Tree.split m : Int) := splitI_nat m (by omega)
    have Hs := Lib.hid hs; clear hs
    go_enter Tryz.func59, Tryz.ntmps59
    go_wp2_with fail
    go_loop [3] (fun v => ∃ j k : Nat, k = 2 ^ j ∧ k < m ∧ 0 < k ∧ v = .int .i64 (k : Int)) (fun v => m - (intOf v).toNat)
    case atStart => exact ⟨0, 1, rfl, by omega, by omega, rfl⟩
    case round =>
      obtain ⟨j, k, hk, hkm, hk0, rfl⟩ := hrel
      have Hk := Lib.hid hk; clear hk
      by_cases hlt : (k : Int) ≤ ((m : Int) - 1) / 2
      · have hb : (2 : Int) * (k : Int) ≤ 9223372036854775807 := by omega
        go_wp2_with fail
        go_round
        case rel => exact ⟨j + 1, 2 * k, by rw [Hk.out, Nat.pow_succ]; omega, by omega, by omega, by simp⟩
        case measure => simp [intOf]; omega
      · go_wp2_with fail
        go_ret
        exact ⟨ret_int (by rw [Hs.out, Tree.split_is m j (by rw [← Hk.out]; omega) (by rw [← Hk.out]; omega), ← Hk.out]), rfl⟩

/-! ### Slices of hashes -/
/-- A slice that reads as l, nil included. -/
def SlS (w : World) (B : Nat) (v : Value) (l : List (List UInt8)) : Prop := ∃ A cap, v = .slice A l.length cap ∧ ((A = none ∨ ∃ a, A = some a) ∧ l = [] ∧ cap = 0 ∨ ∃ b off, A = some ⟨b, off, none⟩) ∧ l.length ≤ cap ∧ cap ≤ 9223372036854775807 ∧ Rd w B A (flatS l)
theorem SlS.below {w w' : World} {B C : Nat} {v : Value} {l : List (List UInt8)} (h : SlS w B v l) (hb : Below C w w') (hC : B ≤ C) : SlS w' B v l := by
  obtain ⟨A, cap, h1, h2, h3, h4, h5⟩ := h
  exact ⟨A, cap, h1, h2, h3, h4, h5.below hb hC⟩
theorem SlS.more {w : World} {B C : Nat} {v : Value} {l : List (List UInt8)} (h : SlS w B v l) (hC : B ≤ C) : SlS w C v l := by
  obtain ⟨A, cap, h1, h2, h3, h4, h5⟩ := h
  exact ⟨A, cap, h1, h2, h3, h4, h5.more hC⟩
theorem SlS.ext {w w' : World} {v : Value} {l : List (List UInt8)} (h : SlS w w.heap.size v l) (hb : Ext w w') : SlS w' w'.heap.size v l := (h.below hb (Nat.le_refl _)).more hb.size
/-- A row of hashes of the call's own. -/
def OwnS (w : World) (base : Nat) (v : Value) (l : List (List UInt8)) : Prop := ∃ A cap, v = .slice A l.length cap ∧ ((A = none ∨ ∃ a, A = some a) ∧ l = [] ∧ cap = 0 ∨ ∃ b off, A = some ⟨b, off, none⟩) ∧ l.length ≤ cap ∧ cap ≤ 9223372036854775807 ∧ (l ≠ [] → w.ownsRow base 28 32 v l.length (flatS l))
theorem OwnS.sl {w : World} {base : Nat} {v : Value} {l : List (List UInt8)} (h : OwnS w base v l) : SlS w w.heap.size v l := by
  obtain ⟨A, cap, rfl, h2, h3, h4, h5⟩ := h
  refine ⟨A, cap, rfl, h2, h3, h4, ?_⟩
  by_cases hl : l = []
  · subst hl; exact Rd.nil
  · exact Rd.of_own (h5 hl)
theorem OwnS.ext {w w' : World} {base : Nat} {v : Value} {l : List (List UInt8)} (h : OwnS w base v l) (hb : Ext w w') : OwnS w' base v l := by
  obtain ⟨A, cap, h1, h2, h3, h4, h5⟩ := h
  exact ⟨A, cap, h1, h2, h3, h4, fun hl => owns_ext (h5 hl) hb⟩
theorem OwnS.of_own {w : World} {base : Nat} {v : Value} {l : List (List UInt8)} (h : w.ownsRow base 28 32 v l.length (flatS l)) : OwnS w base v l := by
  rcases h.2 with ⟨rfl, h0⟩ | ⟨g, cap, cur, rfl, h1, h2, h3, h4, h5, h6⟩
  · have hl : l = [] := List.eq_nil_of_length_eq_zero (by omega)
    subst hl
    exact ⟨none, 0, rfl, .inl ⟨.inl rfl, rfl, rfl⟩, Nat.le_refl _, by omega, fun hl => absurd rfl hl⟩
  · exact ⟨_, cap, rfl, .inr ⟨g, 0, rfl⟩, h3, by unfold maxLen at h4; omega, fun _ => h⟩
theorem stop_dst {P : Program} {ops : Array Oper} {Q : Exit → Act → World → Prop} {o : Oper} {rest : List Oper} {a : Act} {w : World} (t : Tmp) (ho : o.dst = some t) (h : Stopped (wpList P ops Q (o :: rest) a w)) : wpList P ops Q (o :: rest) a w := h.go
theorem sums_nil (A : Option Addr) (n c : Nat) (w : World) : (binOp BinOp.eql 23 (.slice A n c) (.slice none 0 0)).run Tryz.prog w = .ok (.bool A.isNone) w := by
  have := Lib.run_eql_slice_nil (P := Tryz.prog) w 23 28 A n c 0 0 Tryz.underlying23
  exact this
theorem sum_info : (Tryz.prog.info? 28).map (fun i => (i.size, i.bytes, i.zero.map (·.cells.size))) = some (32, 32, some 32) := by kernel_rfl
theorem info_sum : ∃ i z, Tryz.prog.info? 28 = some i ∧ i.zero = some z ∧ i.size = 32 ∧ i.bytes = 32 ∧ z.cells.size = 32 := by
  have h := sum_info
  cases hi : Tryz.prog.info? 28 with
  | none => rw [hi] at h; cases h
  | some i =>
    rw [hi] at h
    simp only [Option.map_some, Option.some.injEq, Prod.mk.injEq] at h
    obtain ⟨h1, h2, h3⟩ := h
    cases hz : i.zero with
    | none => rw [hz] at h3; cases h3
    | some z =>
      rw [hz] at h3
      simp only [Option.map_some, Option.some.injEq] at h3
      exact ⟨i, z, rfl, hz, h1, h2, h3⟩
theorem hcells_one (s : List UInt8) : ∀ u ∈ hcells s, u.oneCell' = true := fun u hu => by
  unfold hcells at hu
  obtain ⟨c, _, rfl⟩ := List.mem_map.1 hu
  rfl
theorem flatS_one_ (l : List (List UInt8)) : ∀ u ∈ flatS l, u.oneCell' = true := fun u hu => by
  unfold flatS at hu
  obtain ⟨s, _, hs⟩ := List.mem_flatMap.1 hu
  exact hcells_one s u hs

theorem fold_from : ∀ (l pre rest : List Value), rest.length = l.length → List.foldl (fun cs x => cs.setIfInBounds x.snd x.fst) (pre ++ rest).toArray (l.zipIdx pre.length) = (pre ++ l).toArray
  | [], pre, rest, h => by
    obtain rfl : rest = [] := List.eq_nil_of_length_eq_zero h
    rfl
  | v :: l, pre, [], h => by simp at h
  | v :: l, pre, r :: rest, h => by
    have ih := fold_from l (pre ++ [v]) rest (by simpa using h)
    simp only [List.zipIdx_cons, List.foldl_cons]
    have e : (pre ++ r :: rest).toArray.setIfInBounds pre.length v = ((pre ++ [v]) ++ rest).toArray := by
      simp [List.set_append_right]
    rw [e]
    rw [List.length_append, List.length_singleton] at ih
    rw [ih, List.append_assoc]
    rfl
theorem fold_sum (s : List UInt8) (hs : s.length = 32) : List.foldl (fun cs x => cs.setIfInBounds x.snd x.fst) (#[.int .u8 0, .int .u8 0, .int .u8 0, .int .u8 0, .int .u8 0, .int .u8 0, .int .u8 0, .int .u8 0, .int .u8 0, .int .u8 0, .int .u8 0, .int .u8 0, .int .u8 0, .int .u8 0, .int .u8 0, .int .u8 0, .int .u8 0, .int .u8 0, .int .u8 0, .int .u8 0, .int .u8 0, .int .u8 0, .int .u8 0, .int .u8 0, .int .u8 0, .int .u8 0, .int .u8 0, .int .u8 0, .int .u8 0, .int .u8 0, .int .u8 0, .int .u8 0] : Array Value) (s.map byteV).zipIdx = (s.map byteV).toArray :=
  fold_from (s.map byteV) [] [.int .u8 0, .int .u8 0, .int .u8 0, .int .u8 0, .int .u8 0, .int .u8 0, .int .u8 0, .int .u8 0, .int .u8 0, .int .u8 0, .int .u8 0, .int .u8 0, .int .u8 0, .int .u8 0, .int .u8 0, .int .u8 0, .int .u8 0, .int .u8 0, .int .u8 0, .int .u8 0, .int .u8 0, .int .u8 0, .int .u8 0, .int .u8 0, .int .u8 0, .int .u8 0, .int .u8 0, .int .u8 0, .int .u8 0, .int .u8 0, .int .u8 0, .int .u8 0] (by simp [hs])
theorem own_slice {w : World} {base n : Nat} {e : TypeId} {size : Nat} {v : Value} {xs : List Value} (h : w.ownsRow base e size v n xs) : ∃ A c, v = .slice A n c := by
  rcases h.2 with ⟨rfl, rfl⟩ | ⟨g, cap, cur, rfl, _⟩
  · exact ⟨_, _, rfl⟩
  · exact ⟨_, _, rfl⟩
theorem own_room {w : World} {base n : Nat} {e : TypeId} {size : Nat} {v : Value} {xs : List Value} (h : w.ownsRow base e size v n xs) {g : Nat} {t : TypeId} {cs : Array Value} (hg : Blk w g t cs) (hne : e ≠ t) (u : Value) (i : Nat) : (w.setCell ⟨g, i, none⟩ u).ownsRow base e size v n xs :=
  h.kept ((Upd.refl g w).setCell (.inl rfl) u) (.inr (own_blk_ne h hg hne))

end Go.Proofs.YtcgnjdkennkheaaGreatDoor

namespace Go.Proofs.YtcgnjdkennkheaaGreatDoor
open Go.RowKit
attribute [local go_sem] bs_size bs_toList2 bs_append bs_extract_end bs_extract_begin bs_get wrap64_b grow_cell grow_frozen

theorem above_take (l : List (List UInt8)) (i : Nat) (h : 2 * i + 1 < l.length) : Tree.above nodeB (l.take (2 * (i + 1))) = Tree.above nodeB (l.take (2 * i)) ++ [nodeB l[2 * i] l[2 * i + 1]] := by
  rw [Tree.above_pairs nodeB [] l i h, List.getElem?_eq_getElem (show 2 * i < l.length by omega), List.getElem?_eq_getElem h]
  rfl
theorem above_take_length (l : List (List UInt8)) (i : Nat) (h : 2 * i ≤ l.length) : (Tree.above nodeB (l.take (2 * i))).length = i := by
  rw [Tree.above_length]
  simp
  omega

end Go.Proofs.YtcgnjdkennkheaaGreatDoor

namespace Go.Proofs.YtcgnjdkennkheaaGreatDoor
open Go.RowKit
attribute [local go_sem] bs_size bs_toList2 bs_append bs_extract_end bs_extract_begin bs_get wrap64_b grow_cell grow_frozen

theorem depthF_le : ∀ f n, Tree.depthF f n ≤ f
  | 0, n => Nat.le_refl _
  | f + 1, n => by
    unfold Tree.depthF
    split
    · omega
    · have := depthF_le f ((n + 1) / 2)
      omega
theorem depth_le (n : Nat) : Tree.depth n ≤ n := depthF_le n n
def slLen : Value → Nat
  | .slice _ n _ => n
  | _ => 0
theorem own_of_blk {w : World} {base g : Nat} {e : TypeId} {v : Value} (h : Blk w g e #[v]) (hb : base ≤ g) : w.ownsRow base e 1 (.slice (some ⟨g, 0, none⟩) 1 1) 1 [v] :=
  ⟨rfl, .inr ⟨g, 1, #[v], rfl, hb, h, Nat.le_refl _, by unfold maxLen; omega, rfl, rfl⟩⟩
theorem sums_info : (Tryz.prog.info? 23).map (fun i => (i.zero, i.size, i.bytes)) = some (some (.slice none 0 0), 1, 24) := by kernel_rfl
/-- The block in which a row lies. -/
def blockOf_ (v : Value) : Nat := match v with
  | .slice (some a) _ _ => a.block
  | _ => 0
/-- Rows of hashes of the call's own, one behind the other in the heap. -/
structure Rows_ (w : World) (base : Nat) (vs : List Value) (ls : List (List (List UInt8))) : Prop where
  length : vs.length = ls.length
  own : ∀ k (h : k < vs.length) (h' : k < ls.length), OwnS w base vs[k] ls[k]
theorem Rows_.ext {w w' : World} {base : Nat} {vs : List Value} {ls : List (List (List UInt8))} (h : Rows_ w base vs ls) (hb : Ext w w') : Rows_ w' base vs ls := ⟨h.length, fun k h1 h2 => (h.own k h1 h2).ext hb⟩
theorem Rows_.snoc {w : World} {base : Nat} {vs : List Value} {ls : List (List (List UInt8))} (h : Rows_ w base vs ls) {v : Value} {l : List (List UInt8)} (hv : OwnS w base v l) : Rows_ w base (vs ++ [v]) (ls ++ [l]) :=
  ⟨by simp [h.length], fun k h1 h2 => by
    by_cases hk : k < vs.length
    · rw [List.getElem_append_left hk, List.getElem_append_left (by rw [← h.length]; exact hk)]
      exact h.own k hk _
    · have hk2 : k = vs.length := by simp at h1; omega
      subst hk2
      have e2 : (ls ++ [l])[vs.length]'h2 = l := by
        rw [List.getElem_append_right (by rw [h.length]; exact Nat.le_refl _)]
        simp [h.length]
      rw [e2, List.getElem_append_right (Nat.le_refl _)]
      simpa using hv⟩
def levK (l : List (List UInt8)) (k : Nat) : List (List (List UInt8)) := (List.range (k + 1)).map (Tree.row nodeB l)
theorem levK_succ (l : List (List UInt8)) (k : Nat) : levK l (k + 1) = levK l k ++ [Tree.row nodeB l (k + 1)] := by
  unfold levK
  rw [List.range_succ, List.map_append]
  rfl
theorem levK_length (l : List (List UInt8)) (k : Nat) : (levK l k).length = k + 1 := by simp [levK]
/-- All rows. -/
def levS (l : List (List UInt8)) : List (List (List UInt8)) := levK l (Tree.depth l.length)
theorem OwnS.less {w : World} {base base' : Nat} {v : Value} {l : List (List UInt8)} (h : OwnS w base v l) (hb : base' ≤ base) : OwnS w base' v l := by
  obtain ⟨A, cap, h1, h2, h3, h4, h5⟩ := h
  exact ⟨A, cap, h1, h2, h3, h4, fun hl => by
    obtain ⟨e1, e2⟩ := h5 hl
    exact ⟨e1, e2.imp id fun ⟨g, c, cur, a1, a2, a3⟩ => ⟨g, c, cur, a1, by omega, a3⟩⟩⟩
theorem row_bound (l : List (List UInt8)) (k : Nat) : (Tree.row nodeB l k).length ≤ l.length ∨ (Tree.row nodeB l k).length ≤ 1 := by
  induction k with
  | zero => exact .inl (Nat.le_refl _)
  | succ k ih =>
    rw [Tree.row_length]
    omega

theorem own_ne {w : World} {base base' n n' size size' : Nat} {e e' : TypeId} {v v' : Value} {xs xs' : List Value} (h : w.ownsRow base e size v n xs) (h' : w.ownsRow base' e' size' v' n' xs') (hne : e ≠ e') : v.ownBlock = none ∨ v.ownBlock ≠ v'.ownBlock := by
  rcases h.2 with ⟨rfl, _⟩ | ⟨g, cap, cur, rfl, _, hh, _⟩
  · exact .inl rfl
  · rcases h'.2 with ⟨rfl, _⟩ | ⟨g', cap', cur', rfl, _, hh', _⟩
    · exact .inr (by simp [Value.ownBlock])
    · refine .inr (fun e1 => ?_)
      have : g = g' := by simpa [Value.ownBlock] using e1
      subst this
      rw [hh] at hh'
      injection hh' with hh'
      injection hh' with _ ht
      exact hne ht
theorem OwnS.kept {w w' : World} {base base' n size : Nat} {e : TypeId} {v vo : Value} {l : List (List UInt8)} {xs : List Value} (h : OwnS w base v l) (ho : w.ownsRow base' e size vo n xs) (hg : w.grownBy w' vo.ownBlock) (hne : 28 ≠ e) : OwnS w' base v l := by
  obtain ⟨A, cap, h1, h2, h3, h4, h5⟩ := h
  exact ⟨A, cap, h1, h2, h3, h4, fun hl => (h5 hl).kept hg (own_ne (h5 hl) ho hne)⟩
theorem Rows_.kept {w w' : World} {base base' n size : Nat} {e : TypeId} {vs : List Value} {vo : Value} {ls : List (List (List UInt8))} {xs : List Value} (h : Rows_ w base vs ls) (ho : w.ownsRow base' e size vo n xs) (hg : w.grownBy w' vo.ownBlock) (hne : 28 ≠ e) : Rows_ w' base vs ls :=
  ⟨h.length, fun k h1 h2 => (h.own k h1 h2).kept ho hg hne⟩

end Go.Proofs.YtcgnjdkennkheaaGreatDoor

namespace Go.Proofs.YtcgnjdkennkheaaGreatDoor
open Go.RowKit
attribute [local go_sem] bs_size bs_toList2 bs_append bs_extract_end bs_extract_begin bs_get wrap64_b grow_cell grow_frozen

theorem levS_length (l : List (List UInt8)) : (levS l).length = Tree.depth l.length + 1 := levK_length _ _
theorem levS_get (l : List (List UInt8)) (k : Nat) (h : k < (levS l).length) : (levS l)[k] = Tree.row nodeB l k := by simp [levS, levK]
theorem levS_last (l : List (List UInt8)) (h : l.length ≠ 0) : ∃ x, Tree.row nodeB l (Tree.depth l.length) = [x] ∧ x = rootS l := by
  have h1 := Tree.last_length nodeB l.length l rfl (by omega)
  have h2 := Tree.root_eq nodeB emptyB l.length l rfl
  unfold Tree.root at h2
  rw [if_neg h] at h2
  match hq : Tree.row nodeB l (Tree.depth l.length), h1 with
  | [x], _ =>
    rw [hq] at h2
    exact ⟨x, rfl, h2⟩

theorem sls_take {w : World} {B : Nat} {b off cap : Nat} {l : List (List UInt8)} (hl : AllH l) (hc : l.length ≤ cap) (hc63 : cap ≤ 9223372036854775807) (hr : Rd w B (some ⟨b, off, none⟩) (flatS l)) (k : Nat) (hk : k ≤ l.length) : SlS w B (.slice (some ⟨b, off, none⟩) k cap) (l.take k) :=
  ⟨_, cap, by rw [List.length_take, Nat.min_eq_left hk], .inr ⟨b, off, rfl⟩, by rw [List.length_take]; omega, hc63, rds_take hr hl k⟩
theorem sls_drop {w : World} {B : Nat} {b off cap : Nat} {l : List (List UInt8)} (hl : AllH l) (hc : l.length ≤ cap) (hc63 : cap ≤ 9223372036854775807) (hr : Rd w B (some ⟨b, off, none⟩) (flatS l)) (k : Nat) : SlS w B (.slice (some ⟨b, off + k * 32, none⟩) (l.length - k) (cap - k)) (l.drop k) :=
  ⟨_, cap - k, by rw [List.length_drop], .inr ⟨b, _, rfl⟩, by rw [List.length_drop]; omega, by omega, rds_drop hr hl k⟩

set_option maxHeartbeats 1000000 in
theorem refRoot_all : ∀ (n : Nat) (v : Value) (l : List (List UInt8)), l.length = n → AllH l → ∀ (w : World), SlS w w.heap.size v l →
    Calls Tryz.prog 24 #[v] w fun e w' => e = .returned (sumV (rootS l)) ∧ Ext w w' := by
  intro n
  induction n using Nat.strongRecOn with
  | ind n ih =>
    intro v l hn hl w h
    obtain ⟨z, hz⟩ : ∃ z, z = rootS l := ⟨_, rfl⟩
    rw [← hz]
    have hzl : z.length = 32 := by rw [hz]; exact rootS_length l hl
    have hml : (z.map byteV).toArray.size = 32 := by simp [hzl]
    have Hz := Lib.hid hz; clear hz
    obtain ⟨A, cap, rfl, hA0, hc, hc63, hr⟩ := h
    have hR0 : ArrB (w.alloc (.cells ((zerosB 32).map byteV).toArray 28)) w.heap.size 28 (zerosB 32) := Blk.new _ _ _
    have hE0 := (Ext.refl w).alloc (.cells ((zerosB 32).map byteV).toArray 28)
    unfold sumV
    by_cases hl0 : l.length = 0
    · have hb : ((l.length : Int) == 0) = true := by simp [hl0]
      have hze : z = shaOf [] := by
        rw [Hz.out, List.eq_nil_of_length_eq_zero hl0]
        rfl
      have Hze := Lib.hid hze
      clear hze hl0 hA0 hr ih hn
      go_enter Tryz.func24, Tryz.ntmps24
      go_wp2_with fail
      change Calls _ _ #[.string (bs [])] (w.alloc (.cells ((zerosB 32).map byteV).toArray 28)) _
      generalize w.alloc (.cells ((zerosB 32).map byteV).toArray 28) = w0 at *
      refine (refOf_calls [] _ (by simp)).mono ?_; rw [← Hze.out]; rintro e w2 ⟨rfl, e2⟩
      have hR2 := Blk.below hR0 e2 hR0.lt
      have hE2 := hE0.trans e2
      clear Hz Hze
      unfold sumV
      go_wp2_with (refine stop_store 28 (.tmp 2) (.tmp 7) rfl ?_)
      refine ⟨?_⟩
      refine wpList_store_row rfl 28 (.tmp 2) (.tmp 7) rfl w.heap.size _ (by rfl) (by rfl) 28 _ hR2 (size32.trans (by rw [hml])) (by rw [hml]; simp [zerosB]) (by simp [byteV, Value.oneCell']) ?_
      simp only [Act.put, List.setIfInBounds_toArray, List.set_cons_zero, List.set_cons_succ]
      go_wp2_with fail
      exact bodyPost_ret (results_cell_row rfl _ _ w.heap.size 28 _ (0, 0) _ rfl (Blk.row hR2 _) Tryz.underlying28 rfl (size32.trans (by rw [hml]))) rfl ⟨rfl, hE2.row (Nat.le_refl _) _⟩
    · have hb : ((l.length : Int) == 0) = false := by rw [beq_eq_false_iff_ne]; omega
      rcases hA0 with ⟨_, hl1, _⟩ | ⟨b, off, rfl⟩
      · rw [hl1] at hl0; simp at hl0
      have hr0 := hr.below hE0 (Nat.le_refl _)
      by_cases hl1 : l.length = 1
      · have hb1 : ((l.length : Int) == 1) = true := by rw [beq_iff_eq]; omega
        have hlt0 : (0 : Int) < (l.length : Int) := by omega
        have hlt0n : 0 < l.length := by omega
        obtain ⟨hbb, hmid⟩ := rds_at hr0 hl (show 0 < l.length by omega)
        rw [Nat.zero_mul, Nat.add_zero] at hmid
        have hz1 : z = l[0] := by
          rw [Hz.out]
          match l, hl1 with
          | [x], _ => rfl
        rw [← hz1] at hmid
        have Hz1 := Lib.hid hz1
        clear hz1 hl1 hl0 Hz ih hn
        go_enter Tryz.func24, Tryz.ntmps24
        go_wp2_with (refine stop_load 28 (.tmp 12) rfl ?_)
        refine ⟨?_⟩
        change wpList _ _ _ _ _ (w.alloc (.cells ((zerosB 32).map byteV).toArray 28))
        generalize w.alloc (.cells ((zerosB 32).map byteV).toArray 28) = w0 at *
        refine wpList_load_mid rfl 28 (.tmp 12) rfl b off (by rfl) (hcells z) _ hmid Tryz.underlying28 rfl (size32l _ hzl) ?_
        simp only [Act.put, List.setIfInBounds_toArray, List.set_cons_zero, List.set_cons_succ]
        refine wpList_store_row rfl 28 (.tmp 2) (.tmp 13) rfl w.heap.size (z.map byteV).toArray (by rfl) (by rfl) 28 _ hR0 (size32.trans (by rw [hml])) (by rw [hml]; simp [zerosB]) (by simp [byteV, Value.oneCell']) ?_
        simp only [Act.put, List.setIfInBounds_toArray, List.set_cons_zero, List.set_cons_succ]
        go_wp2_with fail
        exact bodyPost_ret (results_cell_row rfl _ _ w.heap.size 28 _ (0, 0) _ rfl (Blk.row hR0 _) Tryz.underlying28 rfl (size32.trans (by rw [hml]))) rfl ⟨rfl, hE0.row (Nat.le_refl _) _⟩
      · have hb1 : ((l.length : Int) == 1) = false := by rw [beq_eq_false_iff_ne]; omega
        have hz2 := Tree.rootR_two nodeB emptyB l (by omega)
        have hk1 := Tree.split_pos l.length (by omega)
        have hk2 := Tree.split_lt l.length (by omega)
        have hs := splitI_nat l.length (by omega)
        have Hs := Lib.hid hs
        clear hs
        generalize hk : Tree.split l.length = k at *
        have Hk := Lib.hid hk
        have hkI : (k : Int) < (l.length : Int) := by omega
        have hkc : k < cap := by omega
        have hkcI : (k : Int) < (cap : Int) := by omega
        have hzz : z = nodeB (rootS (l.take k)) (rootS (l.drop k)) := Hz.out.trans hz2
        have Hzz := Lib.hid hzz
        have hta := hl.take k
        have hdr := hl.drop k
        have ih1 := ih k (by omega) (.slice (some ⟨b, off, none⟩) k cap) (l.take k) (by simp; omega) hta
        have ih2 := ih (l.length - k) (by omega) (.slice (some ⟨b, off + k * 32, none⟩) (l.length - k) (cap - k)) (l.drop k) (by simp) hdr
        have Ih1 := Lib.hid ih1; have Ih2 := Lib.hid ih2
        clear hz2 hk hzz Hz hl0 hl1 ih hn ih1 ih2 hb hb1
        have hb : ((l.length : Int) == 0) = false := by rw [beq_eq_false_iff_ne]; omega
        have hb1 : ((l.length : Int) == 1) = false := by rw [beq_eq_false_iff_ne]; omega
        go_enter Tryz.func24, Tryz.ntmps24
        go_wp2_with fail
        change Calls _ _ _ (w.alloc (.cells ((zerosB 32).map byteV).toArray 28)) _
        generalize w.alloc (.cells ((zerosB 32).map byteV).toArray 28) = w0 at *
        refine (refSplit_calls (l.length : Int) (by omega) (by omega) _).mono ?_; rintro e w2 ⟨he, rfl⟩
        rw [Hs.out] at he
        subst he
        have hS1 : ∀ y : More w0, SlS (grow w0 y) (grow w0 y).heap.size (.slice (some ⟨b, off, none⟩) k cap) (l.take k) := fun y => (sls_take hl hc hc63 (hr0.below (grow_ext y) hE0.size) k (by omega)).more (Nat.le_trans hE0.size (grow_ext y).size)
        have hS2 : ∀ y : More w0, SlS (grow w0 y) (grow w0 y).heap.size (.slice (some ⟨b, off + k * 32, none⟩) (l.length - k) (cap - k)) (l.drop k) := fun y => (sls_drop hl hc hc63 (hr0.below (grow_ext y) hE0.size) k).more (Nat.le_trans hE0.size (grow_ext y).size)
        go_wp2_with fail
        refine region_mix 9 (by kernel_rfl) (by kernel_rfl) (fun x => ?_); simp only [List.take_succ_cons, List.take_zero, List.drop_succ_cons, List.drop_zero]
        repeat (first | (refine mix_quiet (by rfl) (by rfl) (fun K hK => ?_); go_big_quiet_op; refine hK _ ?_; clear hK K) | (refine mix_skip (by rfl) ?_; simp only [Act.put, List.setIfInBounds_toArray, List.set_cons_zero, List.set_cons_succ]))
        (refine mix_loud (by rfl) (by rfl) (fun K E hK => ?_); go_big_op)
        refine (Ih1.out _ (hS1 _)).mono ?_; rintro e w3 ⟨rfl, hd'⟩
        obtain ⟨x', rfl⟩ := more_ext _ hd'
        refine hK _ _ ⟨_, rfl⟩ ?_; clear hK K E
        repeat (first | (refine mix_quiet (by rfl) (by rfl) (fun K hK => ?_); go_big_quiet_op; refine hK _ ?_; clear hK K) | (refine mix_skip (by rfl) ?_; simp only [Act.put, List.setIfInBounds_toArray, List.set_cons_zero, List.set_cons_succ]))
        (refine mix_loud (by rfl) (by rfl) (fun K E hK => ?_); go_big_op)
        refine (Ih2.out _ (hS2 _)).mono ?_; rintro e w3 ⟨rfl, hd'⟩
        obtain ⟨x', rfl⟩ := more_ext _ hd'
        refine hK _ _ ⟨_, rfl⟩ ?_; clear hK K E
        (refine mix_loud (by rfl) (by rfl) (fun K E hK => ?_); go_big_op)
        refine (refNode_calls _ _ (rootS_length _ hta) (rootS_length _ hdr) _).mono ?_; rw [← Hzz.out]; rintro e w3 ⟨rfl, hd'⟩
        obtain ⟨x', rfl⟩ := more_ext _ hd'
        refine hK _ _ ⟨_, rfl⟩ ?_; clear hK K E
        refine mix_nil ?_
        have hR2 := Blk.grow x' hR0
        have hE2 := hE0.trans (grow_ext x')
        clear hS1 hS2 Hzz Ih1 Ih2
        unfold sumV
        refine wpList_store_row rfl 28 (.tmp 2) (.tmp 25) rfl w.heap.size (z.map byteV).toArray (by rfl) (by rfl) 28 _ hR2 (size32.trans (by rw [hml])) (by rw [hml]; simp [zerosB]) (by simp [byteV, Value.oneCell']) ?_
        simp only [Act.put, List.setIfInBounds_toArray, List.set_cons_zero, List.set_cons_succ]
        go_wp2_with fail
        exact bodyPost_ret (results_cell_row rfl _ _ w.heap.size 28 _ (0, 0) _ rfl (Blk.row hR2 _) Tryz.underlying28 rfl (size32.trans (by rw [hml]))) rfl ⟨rfl, hE2.row (Nat.le_refl _) _⟩
theorem refRoot_calls (v : Value) (l : List (List UInt8)) (hl : AllH l) (w : World) (h : SlS w w.heap.size v l) :
    Calls Tryz.prog 24 #[v] w fun e w' => e = .returned (sumV (rootS l)) ∧ Ext w w' := refRoot_all _ v l rfl hl w h

/-! ### Same -/
theorem take_eq_succ {α : Type} [DecidableEq α] (l m : List α) (k : Nat) (h1 : k < l.length) (h2 : k < m.length) (h : l.take k = m.take k) : l.take (k + 1) = m.take (k + 1) ↔ l[k] = m[k] := by
  rw [List.take_succ_eq_append_getElem h1, List.take_succ_eq_append_getElem h2, h, List.append_cancel_left_eq, List.cons.injEq]
  simp only [and_true]
end Go.Proofs.YtcgnjdkennkheaaGreatDoor

namespace Go.Proofs.YtcgnjdkennkheaaGreatDoor
open Go.RowKit

theorem fold_at : ∀ (l pre rest post : List Value), rest.length = l.length → ∀ off k, off + k = pre.length → List.foldl (fun (cs : Array Value) (x : Value × Nat) => cs.setIfInBounds (off + x.2) x.1) (pre ++ rest ++ post).toArray (l.zipIdx k) = (pre ++ l ++ post).toArray
  | [], pre, rest, post, h, off, k, hk => by
    obtain rfl : rest = [] := List.eq_nil_of_length_eq_zero h
    rfl
  | v :: l, pre, [], post, h, off, k, hk => by simp at h
  | v :: l, pre, r :: rest, post, h, off, k, hk => by
    have ih := fold_at l (pre ++ [v]) rest post (by simpa using h) off (k + 1) (by simp; omega)
    simp only [List.zipIdx_cons, List.foldl_cons]
    have e : (pre ++ r :: rest ++ post).toArray.setIfInBounds (off + k) v = ((pre ++ [v]) ++ rest ++ post).toArray := by
      rw [hk]
      simp [List.set_append_right]
    rw [e, ih]
    simp
theorem fill_sums : ∀ (l : List (List UInt8)) (i : Nat) (pre rest : List Value), AllH l → pre.length = i * 32 → rest.length = l.length * 32 →
    Instr.fill (fun i => some (i * 32, 32)) (pre ++ rest).toArray ((l.zipIdx i).map fun x => (x.2, sumV x.1)) = some (pre ++ flatS l).toArray
  | [], i, pre, rest, _, hp, hr => by
    obtain rfl : rest = [] := List.eq_nil_of_length_eq_zero (by simpa using hr)
    rfl
  | s :: l, i, pre, rest, hl, hp, hr => by
    have hs : s.length = 32 := hl s (by simp)
    have hr1 : (rest.take 32).length = 32 := by simp only [List.length_cons] at hr; simp; omega
    have ih := fill_sums l (i + 1) (pre ++ hcells s) (rest.drop 32) hl.tail (by simp [hcells_length, hs]; omega) (by simp only [List.length_cons] at hr; simp; omega)
    simp only [List.zipIdx_cons, List.map_cons, Instr.fill]
    have hc : (sumV s).cells = (hcells s).toArray := rfl
    rw [hc]
    have hsz : (hcells s).toArray.size = 32 := by simp [hcells_length, hs]
    rw [if_neg (by
      simp only [hsz, Bool.or_eq_true, decide_eq_true_eq, ne_eq, not_true_eq_false, List.size_toArray, List.length_append, hp, hr, List.length_cons, false_or]
      omega)]
    have e : (pre ++ rest).toArray = (pre ++ rest.take 32 ++ rest.drop 32).toArray := by rw [List.append_assoc, List.take_append_drop]
    have hz : (hcells s).toArray.zipIdx.foldl (fun (cs : Array Value) (x : Value × Nat) => cs.setIfInBounds (i * 32 + x.2) x.1) (pre ++ rest).toArray = (pre ++ hcells s ++ rest.drop 32).toArray := by
      rw [e, ← fold_at (hcells s) pre (rest.take 32) (rest.drop 32) (by rw [hr1, hcells_length, hs]) (i * 32) 0 (by omega)]
      rw [← Array.foldl_toList]
      simp
    rw [show (Array.foldl (fun cs (x : Value × Nat) => match x with | (c, j) => cs.setIfInBounds (i * 32 + j) c) (pre ++ rest).toArray (hcells s).toArray.zipIdx) = (pre ++ hcells s ++ rest.drop 32).toArray from hz]
    rw [ih]
    congr 2
    simp [flatS]
theorem wp_buildSums {o : Oper} {a : Act} {w : World} {K : Act → World → Prop} {Q : Exit → Act → World → Prop} (n : Nat) (parts : Array (Nat × Operand)) (ho : o.op = .buildSlice 23 n parts)
    (l : List (List UInt8)) (hl : AllH l) (hn : l.length = n) (h0 : 0 < n) (h1 : n ≤ 1000) (hp : parts.toList.map (fun x => (x.1, a.eval x.2)) = l.zipIdx.map fun x => (x.2, sumV x.1))
    (h : K (a.put o.dst (.slice (some ⟨w.heap.size, 0, none⟩) n n)) (w.alloc (.cells (flatS l).toArray 28))) : o.wp Tryz.prog a w K Q := by
  obtain ⟨i0, z, hi, hz0, hz1, hz2, hz3⟩ := info_sum
  refine wp_buildSlice 23 28 n parts ho _ i0 z Tryz.underlying23 hi hz0 (by rw [hz1]; omega) (by rw [hz1]; omega) ?_ h
  rw [Array.toList_map, show (parts.toList.map fun (i, x) => (i, a.eval x)) = l.zipIdx.map fun x => (x.2, sumV x.1) from hp, hz1]
  have := fill_sums l 0 [] (((Array.range (n * 32)).map (z.cells[· % z.cells.size]!)).toList) hl rfl (by simp [hn])
  rw [List.nil_append, List.nil_append, Array.toArray_toList] at this
  exact this
theorem wpList_buildSums {ops : Array Oper} {rest : List Oper} {o : Oper} {a : Act} {w : World} {Q : Exit → Act → World → Prop} (hg : o.guard = none) (n : Nat) (parts : Array (Nat × Operand)) (ho : o.op = .buildSlice 23 n parts)
    (l : List (List UInt8)) (hl : AllH l) (hn : l.length = n) (h0 : 0 < n) (h1 : n ≤ 1000) (hp : parts.toList.map (fun x => (x.1, a.eval x.2)) = l.zipIdx.map fun x => (x.2, sumV x.1))
    (h : wpList Tryz.prog ops Q rest (a.put o.dst (.slice (some ⟨w.heap.size, 0, none⟩) n n)) (w.alloc (.cells (flatS l).toArray 28))) : wpList Tryz.prog ops Q (o :: rest) a w :=
  wpList_plain hg fun _ hK => wp_buildSums n parts ho l hl hn h0 h1 hp (hK _ _ h)
theorem sls_new (w : World) (l : List (List UInt8)) (n : Nat) (hn : l.length = n) (h1 : n ≤ 1000) : SlS (w.alloc (.cells (flatS l).toArray 28)) (w.alloc (.cells (flatS l).toArray 28)).heap.size (.slice (some ⟨w.heap.size, 0, none⟩) n n) l :=
  ⟨_, n, by rw [hn], .inr ⟨_, _, rfl⟩, by omega, by omega, Blk.rd (Blk.new w 28 (flatS l).toArray)⟩

end Go.Proofs.YtcgnjdkennkheaaGreatDoor

namespace Go.Proofs.YtcgnjdkennkheaaGreatDoor
open Go.RowKit
def hexE : List UInt8 := [101, 51, 98, 48, 99, 52, 52, 50, 57, 56, 102, 99, 49, 99, 49, 52, 57, 97, 102, 98, 102, 52, 99, 56, 57, 57, 54, 102, 98, 57, 50, 52, 50, 55, 97, 101, 52, 49, 101, 52, 54, 52, 57, 98, 57, 51, 52, 99, 97, 52, 57, 53, 57, 57, 49, 98, 55, 56, 53, 50, 98, 56, 53, 53]
def hexL : List UInt8 := [54, 101, 51, 52, 48, 98, 57, 99, 102, 102, 98, 51, 55, 97, 57, 56, 57, 99, 97, 53, 52, 52, 101, 54, 98, 98, 55, 56, 48, 97, 50, 99, 55, 56, 57, 48, 49, 100, 51, 102, 98, 51, 51, 55, 51, 56, 55, 54, 56, 53, 49, 49, 97, 51, 48, 54, 49, 55, 97, 102, 97, 48, 49, 100]
def hexR : List UInt8 := [51, 54, 54, 52, 50, 101, 55, 51, 99, 50, 53, 52, 48, 97, 98, 49, 50, 49, 101, 51, 97, 54, 98, 102, 57, 53, 52, 53, 98, 48, 97, 50, 52, 57, 56, 50, 99, 100, 56, 51, 48, 101, 98, 49, 51, 100, 51, 99, 100, 49, 57, 100, 101, 51, 99, 101, 54, 99, 48, 50, 49, 101, 99, 49]
def abcT : List (List UInt8) := [leafB [97], leafB [98], leafB [99]]
theorem hex_e : hexOf emptyB = hexE := by decide +kernel
theorem hex_l : hexOf (leafB []) = hexL := by decide +kernel
theorem root_abc : rootS abcT = nodeB (nodeB (leafB [97]) (leafB [98])) (leafB [99]) := rfl
theorem hex_r : hexOf (rootS abcT) = hexR := by decide +kernel
theorem cHE : (ByteArray.mk #[101, 51, 98, 48, 99, 52, 52, 50, 57, 56, 102, 99, 49, 99, 49, 52, 57, 97, 102, 98, 102, 52, 99, 56, 57, 57, 54, 102, 98, 57, 50, 52, 50, 55, 97, 101, 52, 49, 101, 52, 54, 52, 57, 98, 57, 51, 52, 99, 97, 52, 57, 53, 57, 57, 49, 98, 55, 56, 53, 50, 98, 56, 53, 53]) = bs hexE := rfl
theorem cHL : (ByteArray.mk #[54, 101, 51, 52, 48, 98, 57, 99, 102, 102, 98, 51, 55, 97, 57, 56, 57, 99, 97, 53, 52, 52, 101, 54, 98, 98, 55, 56, 48, 97, 50, 99, 55, 56, 57, 48, 49, 100, 51, 102, 98, 51, 51, 55, 51, 56, 55, 54, 56, 53, 49, 49, 97, 51, 48, 54, 49, 55, 97, 102, 97, 48, 49, 100]) = bs hexL := rfl
theorem cHR : (ByteArray.mk #[51, 54, 54, 52, 50, 101, 55, 51, 99, 50, 53, 52, 48, 97, 98, 49, 50, 49, 101, 51, 97, 54, 98, 102, 57, 53, 52, 53, 98, 48, 97, 50, 52, 57, 56, 50, 99, 100, 56, 51, 48, 101, 98, 49, 51, 100, 51, 99, 100, 49, 57, 100, 101, 51, 99, 101, 54, 99, 48, 50, 49, 101, 99, 49]) = bs hexR := rfl
theorem abcT_all : AllH abcT := AllH.cons (leafB_length _) (AllH.cons (leafB_length _) (AllH.cons (leafB_length _) AllH.nil))
attribute [local go_sem] bs_size bs_toList2 bs_append bs_extract_end bs_extract_begin bs_get wrap64_b grow_cell grow_frozen cHE cHL cHR

end Go.Proofs.YtcgnjdkennkheaaGreatDoor

namespace Go.Proofs.YtcgnjdkennkheaaGreatDoor
open Go.RowKit
attribute [local go_sem] bs_size bs_toList2 bs_append bs_extract_end bs_extract_begin bs_get wrap64_b grow_cell grow_frozen

/-- append(nil, l...). -/
theorem append_sls {ops : Array Oper} {rest : List Oper} {o : Oper} {a : Act} {w : World} {Q : Exit → Act → World → Prop} (hgd : o.guard = none) (s x : Operand) (ho : o.op = .call { callee := .builtin .append, args := #[s, x], argTypes := #[23, 23] })
    (v : Value) (l : List (List UInt8)) (hs : a.eval s = .slice none 0 0) (hx : a.eval x = v) (hl : AllH l) (hn : l.length ≤ 1000000) {B : Nat} (h : SlS w B v l) (base : Nat) (hb : base ≤ w.heap.size)
    (hK : ∀ v' w', w'.ownsRow base 28 32 v' l.length (flatS l) → Ext w w' → wpList Tryz.prog ops Q rest (a.put o.dst v') w') : wpList Tryz.prog ops Q (o :: rest) a w := by
  obtain ⟨i0, z, hi, hz0, hz1, hz2, hz3⟩ := info_sum
  obtain ⟨A, cap, rfl, hA, hc, hc63, hr⟩ := h
  have h0 : w.ownsRow base 28 32 (.slice none 0 0) 0 [] := World.ownsRow_nil _ _ _ _
  have ext : ∀ w', w.grownBy w' (Value.slice none 0 0).ownBlock → Ext w w' := fun w' hg => ⟨hg.os, hg.tape, hg.output, hg.size, fun k hk => hg.block k hk (by simp [Value.ownBlock])⟩
  have one : ∀ (ad : Addr), A = some ad → wpList Tryz.prog ops Q (o :: rest) a w := fun ad hA' => by
    subst hA'
    refine wpList_append_own w hgd s x 23 ho base 28 i0 z 32 32 Tryz.underlying23 hi hz0 hz1 hz2 hz3 (by decide) _ 0 [] hs h0 ad l.length cap (flatS l) hx (flatS_length l hl) (fun j u hu => ?_) (flatS_one_ l) (by unfold maxLen; omega) (by omega) hb fun v' w' h1 h2 _ => hK v' w' (by simpa using h1) (ext w' h2)
    obtain ⟨b', off', e, _, hcc⟩ := hr (fun e => by rw [e] at hu; simp at hu)
    injection e with e
    subst e
    rw [Addr.add_mid]
    exact hcc j u hu
  rcases hA with ⟨rfl | ⟨ad, rfl⟩, rfl, rfl⟩ | ⟨b, off, rfl⟩
  · exact wpList_append_own_none hgd s x 23 ho base 28 i0 32 Tryz.underlying23 hi _ 0 [] hs h0 hx (hK _ w h0 (Ext.refl w))
  · exact one ad rfl
  · exact one _ rfl

/-- append(up, x). -/
theorem append_one {ops : Array Oper} {rest : List Oper} {o : Oper} {a : Act} {w w0 : World} {Q : Exit → Act → World → Prop} (hgd : o.guard = none) (s x : Operand) (ho : o.op = .call { callee := .builtin .append, args := #[s, x], argTypes := #[23, 23] })
    (v : Value) (l : List (List UInt8)) (y : List UInt8) (hs : a.eval s = v) (hx : a.eval x = .slice (some ⟨w.heap.size, 0, none⟩) 1 1) (hy : y.length = 32) (hn : l.length ≤ 1000000) (base : Nat) (hb : base ≤ w.heap.size) (n : Nat) (hln : l.length = n)
    (h : w.ownsRow base 28 32 v n (flatS l)) (hE : Ext w0 w) (hb0 : w0.heap.size ≤ base)
    (hK : ∀ A c w', w'.ownsRow base 28 32 (.slice A (n + 1) c) (n + 1) (flatS (l ++ [y])) → Ext w0 w' → wpList Tryz.prog ops Q rest (a.put o.dst (.slice A (n + 1) c)) w') :
    wpList Tryz.prog ops Q (o :: rest) a (w.alloc (.cells (flatS [y]).toArray 28)) := by
  obtain ⟨i0, z, hi, hz0, hz1, hz2, hz3⟩ := info_sum
  refine wpList_append_own _ hgd s x 23 ho base 28 i0 z 32 32 Tryz.underlying23 hi hz0 hz1 hz2 hz3 (by decide) v n (flatS l) hs (h.alloc _) ⟨w.heap.size, 0, none⟩ 1 1 (hcells y) hx (by rw [hcells_length, hy]) (fun j u hj => ?_) (hcells_one y) (by unfold maxLen; omega) (by omega) (by simp; omega) fun v' w' h1 h2 _ => ?_
  · rw [Addr.add_mid, Nat.zero_add, Blk.cell (Blk.new w 28 (flatS [y]).toArray) j, flatS_one]
    simpa using hj
  · obtain ⟨A, c, rfl⟩ := own_slice h1
    rw [← flatS_one, ← flatS_append] at h1
    exact hK A c w' h1 ((hE.alloc _).grown h2 (by have := hE.size; simp; omega) (fun g hg => Nat.le_trans hb0 (h.lt g hg).1))

end Go.Proofs.YtcgnjdkennkheaaGreatDoor
