/-
  The walks of leaf.Split, slices.Clone, leaf.above; of the document's Split and Same.
-/
import Derived.Test.YtfpipdopgepelaaDoorLeaf1
import Derived.Test.YtfpipdopgepelaaDoorShelf
import Derived.Test.YtfpipdopgepelaaDoorEqA
set_option linter.unusedVariables false
set_option maxRecDepth 100000
set_option linter.unusedSimpArgs false
namespace Go.Proofs.YtfpipdopgepelaaDoor
open Go.RowKit
attribute [local go_sem] bs_size bs_toList2 bs_append bs_extract_end bs_extract_begin bs_get wrap64_b grow_cell grow_frozen

theorem bitLen_log : ∀ (f x : Nat), x ≠ 0 → x < 2 ^ f → f ≤ 64 → Lib.bitLen x = x.log2 + 1 := by
  intro f
  induction f with
  | zero => intro x h0 h _; rw [Nat.pow_zero] at h; omega
  | succ f ih =>
    intro x h0 hx hf
    have h64 : x < 2 ^ 64 := Nat.lt_of_lt_of_le hx (Nat.pow_le_pow_right (by omega) hf)
    rw [Lib.bitLen_half x h0 h64, Nat.log2_def]
    by_cases h1 : x / 2 = 0
    · rw [h1, if_neg (by omega)]
      rfl
    · rw [if_pos (by omega), ih (x / 2) h1 (by rw [Nat.pow_succ] at hx; omega) (by omega)]
      omega
def splitI (n : Int) : Int := if n < 2 then 0 else (Tree.split n.toNat : Int)
theorem splitI_nat (n : Nat) (h : 2 ≤ n) : splitI n = (Tree.split n : Int) := by
  unfold splitI
  rw [if_neg (by omega)]
  rfl
set_option maxHeartbeats 400000 in
theorem Split_calls (n : Int) (h0 : -9223372036854775808 ≤ n) (h1 : n ≤ 9223372036854775807) (w : World) : Calls Tryd.prog 72 #[.int .i64 n] w fun e w' => e = .returned (.int .i64 (splitI n)) ∧ w = w' := by
  by_cases h : n < 2
  · have hs : splitI n = 0 := if_pos h
    have Hs := Lib.hid hs; clear hs
    go_enter Tryd.func72, Tryd.ntmps72
    go_wp2
    go_ret
    exact ⟨ret_int (by rw [Hs.out]), rfl⟩
  · obtain ⟨m, rfl⟩ : ∃ m : Nat, n = (m : Int) := ⟨n.toNat, by omega⟩
    have hs : splitI m = ((2 ^ (m - 1).log2 : Nat) : Int) := by rw [splitI_nat m (by omega)]; unfold Tree.split; rw [if_neg (by omega)]
    have hl := bitLen_log 64 (m - 1) (by omega) (by omega) (by omega)
    have hk : (m - 1).log2 < 63 := by
      rw [Nat.log2_lt (by omega)]
      omega
    have hu : IntKind.u64.wrap ((m : Int) - 1) = (m : Int) - 1 := u64_eq rfl (by omega) (by omega)
    have hnn : ((m : Int) - 1).toNat = m - 1 := by omega
    generalize (m - 1).log2 = k at *
    have hp : 2 ^ k ≤ 2 ^ 62 := Nat.pow_le_pow_right (by omega) (by omega)
    have hpp : 0 < 2 ^ k := Nat.pow_pos (by omega)
    have hb1 : (1 : Int) * 2 ^ k ≤ 4611686018427387904 := by
      have : ((2 ^ k : Nat) : Int) ≤ 4611686018427387904 := by omega
      simpa using this
    have hb2 : (2 : Int) ^ k ≤ 4611686018427387904 := by simpa using hb1
    have hb3 : (0 : Int) ≤ 2 ^ k := by
      have : (0 : Int) ≤ ((2 ^ k : Nat) : Int) := by omega
      simpa using this
    have Hs := Lib.hid hs; clear hs
    have Hl := Lib.hid hl; clear hl
    have Hnn := Lib.hid hnn; clear hnn
    clear hp hpp
    go_enter Tryd.func72, Tryd.ntmps72
    go_wp2_with fail
    refine (Tryd.bits_Len ((m : Int) - 1) w (by omega) (by omega)).mono ?_; rintro e w' ⟨he, rfl⟩
    rw [Hnn.out, Hl.out] at he
    subst he
    go_wp2_with fail
    go_ret
    exact ⟨ret_int (by rw [Hs.out]; simp), rfl⟩

set_option maxHeartbeats 400000 in
theorem refSplit_calls (n : Int) (h0 : -9223372036854775808 ≤ n) (h1 : n ≤ 9223372036854775807) (w : World) : Calls Tryd.prog 56 #[.int .i64 n] w fun e w' => e = .returned (.int .i64 (splitI n)) ∧ w = w' := by
  by_cases h : n < 2
  · have hs : splitI n = 0 := if_pos h
    have Hs := Lib.hid hs; clear hs
    go_enter Tryd.func56, Tryd.ntmps56
    go_wp2
    go_ret
    exact ⟨ret_int (by rw [Hs.out]), rfl⟩
  · obtain ⟨m, rfl⟩ : ∃ m : Nat, n = (m : Int) := ⟨n.toNat, by omega⟩
    have hs : splitI m = (Tree.split m : Int) := splitI_nat m (by omega)
    have Hs := Lib.hid hs; clear hs
    go_enter Tryd.func56, Tryd.ntmps56
    go_wp2_with fail
    go_loop [3] (fun v => ∃ j k : Nat, k = 2 ^ j ∧ k < m ∧ 0 < k ∧ v = .int .i64 (k : Int)) (fun v => m - (intOf v).toNat)
    case atStart => exact ⟨0, 1, rfl, by omega, by omega, rfl⟩
    case round =>
      obtain ⟨j, k, hk, hkm, hk0, rfl⟩ := hrel
      have Hk := Lib.hid hk; clear hk
      by_cases hlt : (k : Int) ≤ ((m : Int) - 1) / 2
      · have hb : (2 : Int) * (k : Int) ≤ 9223372036854775807 := by omega
        go_wp2_with fail
        go_round
        case rel => exact ⟨j + 1, 2 * k, by rw [Hk.out, Nat.pow_succ]; omega, by omega, by omega, by simp⟩
        case measure => simp [intOf]; omega
      · go_wp2_with fail
        go_ret
        exact ⟨ret_int (by rw [Hs.out, Tree.split_is m j (by rw [← Hk.out]; omega) (by rw [← Hk.out]; omega), ← Hk.out]), rfl⟩

/-! ### Slices of hashes -/
/-- A slice that reads as l, nil included. -/
def SlS (w : World) (B : Nat) (v : Value) (l : List (List UInt8)) : Prop := ∃ A cap, v = .slice A l.length cap ∧ ((A = none ∨ ∃ a, A = some a) ∧ l = [] ∧ cap = 0 ∨ ∃ b off, A = some ⟨b, off, none⟩) ∧ l.length ≤ cap ∧ cap ≤ 9223372036854775807 ∧ Rd w B A (flatS l)
theorem SlS.below {w w' : World} {B C : Nat} {v : Value} {l : List (List UInt8)} (h : SlS w B v l) (hb : Below C w w') (hC : B ≤ C) : SlS w' B v l := by
  obtain ⟨A, cap, h1, h2, h3, h4, h5⟩ := h
  exact ⟨A, cap, h1, h2, h3, h4, h5.below hb hC⟩
theorem SlS.more {w : World} {B C : Nat} {v : Value} {l : List (List UInt8)} (h : SlS w B v l) (hC : B ≤ C) : SlS w C v l := by
  obtain ⟨A, cap, h1, h2, h3, h4, h5⟩ := h
  exact ⟨A, cap, h1, h2, h3, h4, h5.more hC⟩
theorem SlS.ext {w w' : World} {v : Value} {l : List (List UInt8)} (h : SlS w w.heap.size v l) (hb : Ext w w') : SlS w' w'.heap.size v l := (h.below hb (Nat.le_refl _)).more hb.size
/-- A row of hashes of the call's own. -/
def OwnS (w : World) (base : Nat) (v : Value) (l : List (List UInt8)) : Prop := ∃ A cap, v = .slice A l.length cap ∧ ((A = none ∨ ∃ a, A = some a) ∧ l = [] ∧ cap = 0 ∨ ∃ b off, A = some ⟨b, off, none⟩) ∧ l.length ≤ cap ∧ cap ≤ 9223372036854775807 ∧ (l ≠ [] → w.ownsRow base 23 32 v l.length (flatS l))
theorem OwnS.sl {w : World} {base : Nat} {v : Value} {l : List (List UInt8)} (h : OwnS w base v l) : SlS w w.heap.size v l := by
  obtain ⟨A, cap, rfl, h2, h3, h4, h5⟩ := h
  refine ⟨A, cap, rfl, h2, h3, h4, ?_⟩
  by_cases hl : l = []
  · subst hl; exact Rd.nil
  · exact Rd.of_own (h5 hl)
theorem OwnS.ext {w w' : World} {base : Nat} {v : Value} {l : List (List UInt8)} (h : OwnS w base v l) (hb : Ext w w') : OwnS w' base v l := by
  obtain ⟨A, cap, h1, h2, h3, h4, h5⟩ := h
  exact ⟨A, cap, h1, h2, h3, h4, fun hl => owns_ext (h5 hl) hb⟩
theorem OwnS.of_own {w : World} {base : Nat} {v : Value} {l : List (List UInt8)} (h : w.ownsRow base 23 32 v l.length (flatS l)) : OwnS w base v l := by
  rcases h.2 with ⟨rfl, h0⟩ | ⟨g, cap, cur, rfl, h1, h2, h3, h4, h5, h6⟩
  · have hl : l = [] := List.eq_nil_of_length_eq_zero (by omega)
    subst hl
    exact ⟨none, 0, rfl, .inl ⟨.inl rfl, rfl, rfl⟩, Nat.le_refl _, by omega, fun hl => absurd rfl hl⟩
  · exact ⟨_, cap, rfl, .inr ⟨g, 0, rfl⟩, h3, by unfold maxLen at h4; omega, fun _ => h⟩
theorem stop_dst {P : Program} {ops : Array Oper} {Q : Exit → Act → World → Prop} {o : Oper} {rest : List Oper} {a : Act} {w : World} (t : Tmp) (ho : o.dst = some t) (h : Stopped (wpList P ops Q (o :: rest) a w)) : wpList P ops Q (o :: rest) a w := h.go
theorem sums_nil (A : Option Addr) (n c : Nat) (w : World) : (binOp BinOp.eql 25 (.slice A n c) (.slice none 0 0)).run Tryd.prog w = .ok (.bool A.isNone) w := by
  have := Lib.run_eql_slice_nil (P := Tryd.prog) w 25 23 A n c 0 0 Tryd.underlying25
  exact this
theorem sum_info : (Tryd.prog.info? 23).map (fun i => (i.size, i.bytes, i.zero.map (·.cells.size))) = some (32, 32, some 32) := by kernel_rfl
theorem info_sum : ∃ i z, Tryd.prog.info? 23 = some i ∧ i.zero = some z ∧ i.size = 32 ∧ i.bytes = 32 ∧ z.cells.size = 32 := by
  have h := sum_info
  cases hi : Tryd.prog.info? 23 with
  | none => rw [hi] at h; cases h
  | some i =>
    rw [hi] at h
    simp only [Option.map_some, Option.some.injEq, Prod.mk.injEq] at h
    obtain ⟨h1, h2, h3⟩ := h
    cases hz : i.zero with
    | none => rw [hz] at h3; cases h3
    | some z =>
      rw [hz] at h3
      simp only [Option.map_some, Option.some.injEq] at h3
      exact ⟨i, z, rfl, hz, h1, h2, h3⟩
theorem hcells_one (s : List UInt8) : ∀ u ∈ hcells s, u.oneCell' = true := fun u hu => by
  unfold hcells at hu
  obtain ⟨c, _, rfl⟩ := List.mem_map.1 hu
  rfl
theorem flatS_one_ (l : List (List UInt8)) : ∀ u ∈ flatS l, u.oneCell' = true := fun u hu => by
  unfold flatS at hu
  obtain ⟨s, _, hs⟩ := List.mem_flatMap.1 hu
  exact hcells_one s u hs

theorem fold_from : ∀ (l pre rest : List Value), rest.length = l.length → List.foldl (fun cs x => cs.setIfInBounds x.snd x.fst) (pre ++ rest).toArray (l.zipIdx pre.length) = (pre ++ l).toArray
  | [], pre, rest, h => by
    obtain rfl : rest = [] := List.eq_nil_of_length_eq_zero h
    rfl
  | v :: l, pre, [], h => by simp at h
  | v :: l, pre, r :: rest, h => by
    have ih := fold_from l (pre ++ [v]) rest (by simpa using h)
    simp only [List.zipIdx_cons, List.foldl_cons]
    have e : (pre ++ r :: rest).toArray.setIfInBounds pre.length v = ((pre ++ [v]) ++ rest).toArray := by
      simp [List.set_append_right]
    rw [e]
    rw [List.length_append, List.length_singleton] at ih
    rw [ih, List.append_assoc]
    rfl
theorem fold_sum (s : List UInt8) (hs : s.length = 32) : List.foldl (fun cs x => cs.setIfInBounds x.snd x.fst) (#[.int .u8 0, .int .u8 0, .int .u8 0, .int .u8 0, .int .u8 0, .int .u8 0, .int .u8 0, .int .u8 0, .int .u8 0, .int .u8 0, .int .u8 0, .int .u8 0, .int .u8 0, .int .u8 0, .int .u8 0, .int .u8 0, .int .u8 0, .int .u8 0, .int .u8 0, .int .u8 0, .int .u8 0, .int .u8 0, .int .u8 0, .int .u8 0, .int .u8 0, .int .u8 0, .int .u8 0, .int .u8 0, .int .u8 0, .int .u8 0, .int .u8 0, .int .u8 0] : Array Value) (s.map byteV).zipIdx = (s.map byteV).toArray :=
  fold_from (s.map byteV) [] [.int .u8 0, .int .u8 0, .int .u8 0, .int .u8 0, .int .u8 0, .int .u8 0, .int .u8 0, .int .u8 0, .int .u8 0, .int .u8 0, .int .u8 0, .int .u8 0, .int .u8 0, .int .u8 0, .int .u8 0, .int .u8 0, .int .u8 0, .int .u8 0, .int .u8 0, .int .u8 0, .int .u8 0, .int .u8 0, .int .u8 0, .int .u8 0, .int .u8 0, .int .u8 0, .int .u8 0, .int .u8 0, .int .u8 0, .int .u8 0, .int .u8 0, .int .u8 0] (by simp [hs])
theorem own_slice {w : World} {base n : Nat} {e : TypeId} {size : Nat} {v : Value} {xs : List Value} (h : w.ownsRow base e size v n xs) : ∃ A c, v = .slice A n c := by
  rcases h.2 with ⟨rfl, rfl⟩ | ⟨g, cap, cur, rfl, _⟩
  · exact ⟨_, _, rfl⟩
  · exact ⟨_, _, rfl⟩
theorem own_room {w : World} {base n : Nat} {e : TypeId} {size : Nat} {v : Value} {xs : List Value} (h : w.ownsRow base e size v n xs) {g : Nat} {t : TypeId} {cs : Array Value} (hg : Blk w g t cs) (hne : e ≠ t) (u : Value) (i : Nat) : (w.setCell ⟨g, i, none⟩ u).ownsRow base e size v n xs :=
  h.kept ((Upd.refl g w).setCell (.inl rfl) u) (.inr (own_blk_ne h hg hne))

end Go.Proofs.YtfpipdopgepelaaDoor
