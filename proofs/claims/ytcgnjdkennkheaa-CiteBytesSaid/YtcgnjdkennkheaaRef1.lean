/-
  The walks of the document's scanner (scriniumref01): it agrees with the plain one.
-/
import Derived.Test.YtcgnjdkennkheaaL01
set_option linter.unusedVariables false
set_option maxRecDepth 100000
set_option linter.unusedSimpArgs false
namespace Go.Proofs.Ytcgnjdkennkheaa
open Go.RowKit
attribute [local go_sem] bs_size bs_toList2 bs_append bs_extract_end bs_extract_begin bs_get wrap64_b

/-- The document's scanner at block g, over the text s, agrees with x. -/
def RfAt (w : World) (g : Nat) (s : List UInt8) (x : Oct.Sc) : Prop :=
  ∃ m : Nat, m ≤ s.length ∧ Blk w g 65 #[.string (bs s), .int .i64 m, .bool x.spoil] ∧ (x.spoil = false → x.left = s.drop m)

theorem RfAt.ext {w w' : World} {g : Nat} {s : List UInt8} {x : Oct.Sc} (h : RfAt w g s x) (hb : Ext w w') : RfAt w' g s x := by
  obtain ⟨m, h1, h2, h3⟩ := h
  exact ⟨m, h1, Blk.below h2 hb h2.lt, h3⟩
theorem RfAt.lt {w : World} {g : Nat} {s : List UInt8} {x : Oct.Sc} (h : RfAt w g s x) : g < w.heap.size := by
  obtain ⟨m, h1, h2, h3⟩ := h
  exact h2.lt

theorem RfAt.alloc {w : World} {g : Nat} {s : List UInt8} {x : Oct.Sc} (h : RfAt w g s x) (o : Obj) : RfAt (w.alloc o) g s x := by
  obtain ⟨m, h1, h2, h3⟩ := h
  exact ⟨m, h1, h2.alloc _, h3⟩
theorem RfAt.grown {w w' : World} {row : Option Nat} {g : Nat} {s : List UInt8} {x : Oct.Sc} (h : RfAt w g s x) (hb : w.grownBy w' row) (hg : some g ≠ row) : RfAt w' g s x := by
  obtain ⟨m, h1, h2, h3⟩ := h
  exact ⟨m, h1, h2.grown hb hg, h3⟩
theorem Upd.grown {g : Nat} {a b c : World} {row : Option Nat} (h : Upd g a b) (k : b.grownBy c row) (hr : ∀ i, row = some i → a.heap.size ≤ i) : Upd g a c :=
  ⟨k.os.trans h.os, k.tape.trans h.tape, k.output.trans h.output, Nat.le_trans h.size k.size, fun i hi hn => (k.block i (Nat.lt_of_lt_of_le hi h.size) (fun e => by have := hr i e.symm; omega)).trans (h.block i hi hn)⟩

/-- A callee that leaves the world alone, in a region of reads. -/
theorem quiet_eqd {P : Program} {f : FuncId} {args : Array Value} {w : World} {n : Nat} {v : Value} (h : Calls P f args (w.drewN n) fun e w' => e = .returned v ∧ w.drewN n = w') :
    Calls P f args (w.drewN n) fun e w'' => e = .returned v ∧ ∃ m, w'' = w.drewN m := h.mono fun _ _ ⟨he, hm⟩ => ⟨he, n, hm.symm⟩

theorem drop_get {s : List UInt8} {m : Nat} {c : UInt8} {r : List UInt8} (h : s.drop m = c :: r) : s.length = m + 1 + r.length ∧ (∀ hm : m < s.length, s[m]'hm = c) ∧ (∀ (j : Nat) (hj : j < r.length) (hm : m + (j + 1) < s.length), s[m + (j + 1)]'hm = r[j]) ∧ s.drop (m + 1) = r := by
  have hl := congrArg List.length h
  simp at hl
  refine ⟨by omega, fun hm => ?_, fun j hj hm => ?_, ?_⟩
  · have h1 : s[m]? = some c := by
      have : (s.drop m)[0]? = some c := by rw [h]; rfl
      rwa [List.getElem?_drop, Nat.add_zero] at this
    rw [List.getElem?_eq_getElem hm] at h1
    exact Option.some.inj h1
  · have h1 : s[m + (j + 1)]? = some r[j] := by
      have : (s.drop m)[j + 1]? = some r[j] := by rw [h, List.getElem?_cons_succ, List.getElem?_eq_getElem hj]
      rwa [List.getElem?_drop] at this
    rw [List.getElem?_eq_getElem hm] at h1
    exact Option.some.inj h1
  · rw [← List.drop_drop, h]; rfl

set_option maxRecDepth 100000 in
set_option maxHeartbeats 2000000 in
theorem rfLong_calls (g : Nat) (s : List UInt8) (x : Oct.Sc) (w : World) (h : RfAt w g s x) (hl : s.length ≤ 1099511627776) :
    Calls Try.prog 65 #[.pointer (some ⟨g, 0, none⟩)] w fun e w' => e = .returned (.int .u64 x.long.1) ∧ RfAt w' g s x.long.2 ∧ Upd g w w' := by
  obtain ⟨m, hm, hB, hx⟩ := h
  obtain ⟨q, sp⟩ := x
  have c0 : w.cell? ⟨g, 0, none⟩ = some (.string (bs s)) := Blk.cell hB 0
  have c1 : w.cell? ⟨g, 1, none⟩ = some (.int .i64 m) := Blk.cell hB 1
  have f2 := hB.frozen 2
  have f1 := hB.frozen 1
  cases sp with
  | true =>
    have hlong : Oct.Sc.long ⟨q, true⟩ = (0, ⟨q, true⟩) := rfl
    rw [hlong]
    have c2 : w.cell? ⟨g, 2, none⟩ = some (.bool true) := Blk.cell hB 2
    clear hx hlong
    go_enter Try.func65, Try.ntmps65
    go_wp2
    go_quiet (fail)
    go_wp2
    go_ret
    refine ⟨rfl, ⟨m, hm, Blk.set_ (Blk.drewN hB _) 2 (.bool true), fun e => by cases e⟩, ((Upd.refl g w).drewN _).setCell (.inl rfl) _⟩
  | false =>
    have hq : q = s.drop m := hx rfl
    have c2 : w.cell? ⟨g, 2, none⟩ = some (.bool false) := Blk.cell hB 2
    clear hx
    rcases q with _ | ⟨c, r⟩
    · have hlong : Oct.Sc.long ⟨[], false⟩ = (0, ⟨[], true⟩) := rfl
      rw [hlong]
      have hge : s.length ≤ m := by have := congrArg List.length hq; simp at this; omega
      clear hlong hq
      go_enter Try.func65, Try.ntmps65
      go_wp2
      go_quiet (fail)
      go_wp2
      go_ret
      exact ⟨rfl, ⟨m, hm, Blk.set_ (Blk.drewN hB _) 2 (.bool true), fun e => by cases e⟩, ((Upd.refl g w).drewN _).setCell (.inl rfl) _⟩
    · obtain ⟨hsl, hga, hgj, hdr⟩ := drop_get hq.symm
      have HSL := Lib.hid hsl
      have HGJ := Lib.hid hgj
      have HDR := Lib.hid hdr
      have hm0 : (0 : Int) ≤ (m : Int) := by omega
      have hm1 : (m : Int) < (s.length : Int) := by omega
      have hm2 : m < s.length := by omega
      have hw1 : IntKind.i64.wrap ((s.length : Int) - (m : Int)) = (s.length : Int) - (m : Int) := i64_eq rfl (by omega) (by omega)
      have hw2 : IntKind.i64.wrap ((s.length : Int) - (m : Int) - 1) = (s.length : Int) - (m : Int) - 1 := i64_eq rfl (by omega) (by omega)
      have hle : decide ((s.length : Int) ≤ (m : Int)) = false := by simp; omega
      by_cases h1 : 8 < c.toNat ∨ r.length < c.toNat
      · have hlong : Oct.Sc.long ⟨c :: r, false⟩ = (0, ⟨r, true⟩) := by simp [Oct.Sc.long, h1]
        rw [hlong]
        clear hlong
        rcases (show 8 < c.toNat ∨ (c.toNat ≤ 8 ∧ r.length < c.toNat) from by omega) with h2 | ⟨h2, h3⟩
        · have hd1 : decide ((8 : Int) < (c.toNat : Int)) = true := by simp; omega
          clear hsl hgj hdr hq
          go_enter Try.func65, Try.ntmps65
          go_wp2
          go_quiet (fail)
          go_wp2
          go_quiet (fail)
          go_wp2
          go_quiet (fail)
          go_wp2
          go_ret
          exact ⟨rfl, ⟨m, hm, Blk.set_ (Blk.drewN hB _) 2 (.bool true), fun e => by cases e⟩, ((Upd.refl g w).drewN _).setCell (.inl rfl) _⟩
        · have hd1 : decide ((8 : Int) < (c.toNat : Int)) = false := by simp; omega
          have hd2 : decide ((s.length : Int) - (m : Int) - 1 < (c.toNat : Int)) = true := by simp; omega
          clear hsl hgj hdr hq
          go_enter Try.func65, Try.ntmps65
          go_wp2
          go_quiet (fail)
          go_wp2
          go_quiet (fail)
          go_wp2
          go_quiet (fail)
          go_wp2
          go_ret
          exact ⟨rfl, ⟨m, hm, Blk.set_ (Blk.drewN hB _) 2 (.bool true), fun e => by cases e⟩, ((Upd.refl g w).drewN _).setCell (.inl rfl) _⟩
      · have hd1 : decide ((8 : Int) < (c.toNat : Int)) = false := by simp; omega
        have hd2 : decide ((s.length : Int) - (m : Int) - 1 < (c.toNat : Int)) = false := by simp; omega
        have hw3 : IntKind.i64.wrap ((m : Int) + 1) = (m : Int) + 1 := i64_eq rfl (by omega) (by omega)
        have hc8 : c.toNat ≤ 8 := by omega
        have hcr : c.toNat ≤ r.length := by omega
        by_cases h2 : 0 < c.toNat ∧ r.head? = some 0
        · have hlong : Oct.Sc.long ⟨c :: r, false⟩ = (0, ⟨r.drop c.toNat, true⟩) := by simp only [Oct.Sc.long, if_neg h1, if_pos h2]; rfl
          rw [hlong]
          obtain ⟨h3, h4⟩ := h2
          have hd3 : decide ((0 : Int) < (c.toNat : Int)) = true := by simp; omega
          have hd3' : decide (0 < c.toNat) = true := by simp; omega
          have hg1 : ∀ h : m + 1 < s.length, s[m + 1]'h = 0 := fun h => by
            rw [hgj 0 (by omega) h]
            rcases r with _ | ⟨z, r⟩
            · simp at h4
            · simpa using h4
          have hi0 : (0 : Int) ≤ (m : Int) + 1 := by omega
          have hi1 : (m : Int) + 1 < (s.length : Int) := by omega
          clear hlong hsl hgj hdr hq h4
          go_enter Try.func65, Try.ntmps65
          go_wp2
          go_quiet (fail)
          go_wp2
          go_quiet (fail)
          go_wp2
          go_quiet (fail)
          go_wp2
          go_ret
          exact ⟨rfl, ⟨m, hm, Blk.set_ (Blk.drewN hB _) 2 (.bool true), fun e => by cases e⟩, ((Upd.refl g w).drewN _).setCell (.inl rfl) _⟩
        · have hlong : Oct.Sc.long ⟨c :: r, false⟩ = (Oct.val (r.take c.toNat), ⟨r.drop c.toNat, false⟩) := by simp only [Oct.Sc.long, if_neg h1, if_neg h2]; rfl
          rw [hlong]
          have hres : RfAt ((w.drewN 0).setCell ⟨g, 1, none⟩ (.int .i64 ((m : Int) + 1 + c.toNat))) g s ⟨r.drop c.toNat, false⟩ := by
            refine ⟨m + 1 + c.toNat, by omega, ?_, fun _ => by rw [← hdr, List.drop_drop]⟩
            have := hB.set_ 1 (.int .i64 ((m : Int) + 1 + c.toNat))
            exact this
          have hw4 : IntKind.i64.wrap ((m : Int) + 1 + (c.toNat : Int)) = (m : Int) + 1 + (c.toNat : Int) := i64_eq rfl (by omega) (by omega)
          have HRES := Lib.hid hres
          rcases (show (decide ((0 : Int) < (c.toNat : Int)) = false ∧ decide (0 < c.toNat) = false) ∨ ((decide ((0 : Int) < (c.toNat : Int)) = true ∧ decide (0 < c.toNat) = true) ∧ (0 : Int) ≤ (m : Int) + 1 ∧ (m : Int) + 1 < (s.length : Int) ∧ ∀ h : m + 1 < s.length, ((↑((s[m + 1]'h).toNat) : Int) == 0) = false) from by
              by_cases h3 : 0 < c.toNat
              · refine .inr ⟨⟨by simp; omega, by simp; omega⟩, by omega, by omega, fun h => ?_⟩
                rw [hgj 0 (by omega) h]
                rcases r with _ | ⟨z, r⟩
                · simp at hcr; omega
                · simp only [List.getElem_cons_zero, beq_eq_false_iff_ne, ne_eq]
                  intro h0
                  apply h2
                  refine ⟨h3, ?_⟩
                  simp only [List.head?_cons, Option.some.injEq]
                  exact UInt8.toNat_inj.1 (by simpa using h0)
              · exact .inl ⟨by simp; omega, by simp; omega⟩) with ⟨hd3, hd3'⟩ | ⟨⟨hd3, hd3'⟩, hi0, hi1, hg1⟩
          all_goals
            clear hlong hsl hgj hdr hq hres h1 h2
            go_enter Try.func65, Try.ntmps65
            go_wp2
            go_quiet (fail)
            go_wp2
            go_quiet (fail)
            go_wp2
            go_quiet (fail)
            go_wp2
            go_loopw [4, 5] (fun n i wr => ∃ j : Nat, j ≤ c.toNat ∧ i = .int .i64 ((j : Int) + 1) ∧ n = .int .u64 (Oct.val (r.take j)) ∧ ∃ z, wr = w.drewN z) (fun _ i _ => c.toNat + 1 - (intOf i).toNat)
            case atStart => exact ⟨0, Nat.zero_le _, rfl, rfl, _, by simp only [World.drewN_drewN]; rfl⟩
            case round =>
              obtain ⟨j, hj, rfl, rfl, z, rfl⟩ := hrel
              by_cases hlt : j < c.toNat
              · have hv := Oct.val_take r j (by omega)
                have hb1 := Oct.val_lt (r.take (j + 1))
                have hb2 := Oct.pow_le8 (r.take (j + 1)).length (by simp; omega)
                have hb3 : Oct.val (r.take (j + 1)) < 18446744073709551616 := Nat.lt_of_lt_of_le hb1 hb2
                have hgj2 := HGJ.out j (by omega)
                have hjr : j < r.length := by omega
                have hj0 : (0 : Int) ≤ (m : Int) + ((j : Int) + 1) := by omega
                have hj1 : (m : Int) + ((j : Int) + 1) < (s.length : Int) := by have := HSL.out; omega
                have hci := (r[j]'hjr).toNat_lt
                have hw5 : IntKind.i64.wrap ((m : Int) + ((j : Int) + 1)) = (m : Int) + ((j : Int) + 1) := i64_eq rfl (by omega) (by omega)
                have hw6 : IntKind.u64.wrap ((Oct.val (r.take j) : Int) * 256) = (Oct.val (r.take j) : Int) * 256 := u64_eq rfl (by omega) (by omega)
                have hw7 : IntKind.u64.wrap ((Oct.val (r.take j) : Int) * 256 + ((r[j]'hjr).toNat : Int)) = (Oct.val (r.take j) : Int) * 256 + ((r[j]'hjr).toNat : Int) := u64_eq rfl (by omega) (by omega)
                have HV := Lib.hid hv
                clear hv hb1 hb2 hb3
                go_wp2
                go_quiet (fail)
                go_wp2
                go_roundw
                case rel => exact ⟨j + 1, by omega, by go_num, by rw [HV.out]; rfl, _, rfl⟩
                case measure => simp [intOf]; omega
              · obtain rfl : c.toNat = j := by omega
                go_wp2
                go_ret
                exact ⟨rfl, HRES.out, ((Upd.refl g w).drewN _).setCell (.inl rfl) _⟩

theorem long_bad (x : Oct.Sc) (h : x.long.2.spoil = true) : x.long.1 = 0 := by
  unfold Oct.Sc.long at h ⊢
  split
  · rfl
  · rename_i hs
    rw [if_neg hs] at h
    split
    · rfl
    · rename_i c r hr
      rw [hr] at h
      simp only at h
      split
      · rfl
      · rename_i h1
        rw [if_neg h1] at h
        split
        · rfl
        · rename_i h2
          rw [if_neg h2] at h
          simp at h

theorem RfAt.bad {w : World} {g : Nat} {s : List UInt8} {x : Oct.Sc} (h : RfAt w g s x) : RfAt (w.setCell ⟨g, 2, none⟩ (.bool true)) g s x.bad := by
  obtain ⟨m, h1, h2, h3⟩ := h
  exact ⟨m, h1, Blk.set_ h2 2 (.bool true), fun e => by cases e⟩

set_option maxRecDepth 100000 in
set_option maxHeartbeats 1000000 in
theorem rfNum_calls (g : Nat) (s : List UInt8) (x : Oct.Sc) (most : Int) (w : World) (h : RfAt w g s x) (hl : s.length ≤ 1099511627776) (hm0 : -9223372036854775808 ≤ most) (hm1 : most ≤ 9223372036854775807) :
    Calls Try.prog 38 #[.pointer (some ⟨g, 0, none⟩), .int .i64 most] w fun e w' => e = .returned (.int .i64 (x.num most).1) ∧ RfAt w' g s (x.num most).2 ∧ Upd g w w' := by
  have hlt := Oct.long_lt x
  have HL := rfLong_calls g s x w h hl
  have hlb := long_bad x
  replace HL := Lib.hid HL
  by_cases hneg : most < 0
  · have e1 : x.num most = (0, x.long.2.bad) := by simp [Oct.Sc.num, hneg]
    rw [e1]; clear e1 hlb h
    go_enter Try.func38, Try.ntmps38
    go_wp2_with fail
    refine HL.out.mono ?_; rintro e w1 ⟨rfl, h1, hu1⟩
    have hbad := h1.bad
    obtain ⟨m1, hm1, hB1, hx1⟩ := h1
    have c2 : w1.cell? ⟨g, 2, none⟩ = some (.bool x.long.2.spoil) := Blk.cell hB1 2
    have f2 := hB1.frozen 2
    go_wp2_with fail
    go_ret
    exact ⟨rfl, hbad, hu1.setCell (.inl rfl) _⟩
  · by_cases hbig : most < (x.long.1 : Int)
    · have e1 : x.num most = (0, x.long.2.bad) := by simp [Oct.Sc.num, hbig]
      rw [e1]; clear e1 hlb h
      go_enter Try.func38, Try.ntmps38
      go_wp2_with fail
      refine HL.out.mono ?_; rintro e w1 ⟨rfl, h1, hu1⟩
      have hbad := h1.bad
      obtain ⟨m1, hm1, hB1, hx1⟩ := h1
      have c2 : w1.cell? ⟨g, 2, none⟩ = some (.bool x.long.2.spoil) := Blk.cell hB1 2
      have f2 := hB1.frozen 2
      go_wp2_with fail
      go_ret
      exact ⟨rfl, hbad, hu1.setCell (.inl rfl) _⟩
    · have e1 : x.num most = ((x.long.1 : Int), x.long.2) := by simp [Oct.Sc.num, hneg, hbig]
      rw [e1]; clear e1 h
      cases hsp : x.long.2.spoil
      all_goals
        have HSP := Lib.hid hsp
        have HLB := Lib.hid hlb
        clear hlb hsp
        go_enter Try.func38, Try.ntmps38
        go_wp2_with fail
        refine HL.out.mono ?_; rintro e w1 ⟨rfl, h1, hu1⟩
        have h1' := h1
        obtain ⟨m1, hm1, hB1, hx1⟩ := h1
        have c2 : w1.cell? ⟨g, 2, none⟩ = some (.bool x.long.2.spoil) := Blk.cell hB1 2
        rw [HSP.out] at c2
        go_wp2_with fail
        go_ret
        first
          | exact ⟨rfl, h1', hu1⟩
          | exact ⟨by rw [HLB.out HSP.out]; rfl, h1', hu1⟩

theorem rfEnd_calls (g : Nat) (s : List UInt8) (x : Oct.Sc) (w : World) (h : RfAt w g s x) (hl : s.length ≤ 1099511627776) :
    Calls Try.prog 40 #[.pointer (some ⟨g, 0, none⟩)] w fun e w' => e = .returned (.int .i64 x.endE) ∧ ∃ z, w' = w.drewN z := by
  obtain ⟨m, hm, hB, hx⟩ := h
  obtain ⟨q, sp⟩ := x
  have c0 : w.cell? ⟨g, 0, none⟩ = some (.string (bs s)) := Blk.cell hB 0
  have c1 : w.cell? ⟨g, 1, none⟩ = some (.int .i64 m) := Blk.cell hB 1
  have c2 : w.cell? ⟨g, 2, none⟩ = some (.bool sp) := Blk.cell hB 2
  cases sp with
  | true =>
    go_enter Try.func40, Try.ntmps40
    go_wp2
    go_quiet (fail)
    go_wp2
    go_ret
    exact ⟨rfl, _, rfl⟩
  | false =>
    obtain rfl := hx rfl
    rcases (show (decide ((m : Int) < (s.length : Int)) = true ∧ s.drop m ≠ []) ∨ (decide ((m : Int) < (s.length : Int)) = false ∧ s.drop m = []) from by
      by_cases hlt : m < s.length
      · exact .inl ⟨by simp; omega, by intro e; have := congrArg List.length e; simp at this; omega⟩
      · exact .inr ⟨by simp; omega, List.drop_eq_nil_of_le (by omega)⟩) with ⟨hd, hd2⟩ | ⟨hd, hd2⟩
    all_goals
      have HD2 := Lib.hid hd2
      clear hd2
      go_enter Try.func40, Try.ntmps40
      go_wp2
      go_quiet (fail)
      go_wp2
      all_goals first
        | (exfalso; simp at hd; omega)
        | (go_ret; exact ⟨ret_int (by simp [Oct.Sc.endE, HD2.out]), _, rfl⟩)

theorem RfAt.drewN {w : World} {g : Nat} {s : List UInt8} {x : Oct.Sc} (h : RfAt w g s x) (n : Nat) : RfAt (w.drewN n) g s x := h

set_option maxRecDepth 100000 in
set_option maxHeartbeats 1000000 in
theorem rfText_calls (g : Nat) (s : List UInt8) (x : Oct.Sc) (most : Int) (w : World) (h : RfAt w g s x) (hl : s.length ≤ 1099511627776) (hm0 : -9223372036854775808 ≤ most) (hm1 : most ≤ 9223372036854775807) :
    Calls Try.prog 36 #[.pointer (some ⟨g, 0, none⟩), .int .i64 most] w fun e w' => e = .returned (.string (bs (x.text most).1)) ∧ RfAt w' g s (x.text most).2 ∧ Upd g w w' := by
  have hnn := Oct.num_nonneg x most
  have hnl := Oct.num_lt x most hm1
  have HL := rfNum_calls g s x most w h hl hm0 hm1
  replace HL := Lib.hid HL
  clear h
  cases hsp : (x.num most).2.spoil
  · obtain ⟨k, hk⟩ := Int.eq_ofNat_of_zero_le hnn
    rw [hk] at hnl
    by_cases hlt : (x.num most).2.left.length < k
    · have e1 : x.text most = ([], (x.num most).2.bad) := by
        have : ((x.num most).2.left.length : Int) < (x.num most).1 := by rw [hk]; omega
        simp [Oct.Sc.text, hsp, Oct.Sc.take, this]
      rw [e1]; clear e1
      have HSP := Lib.hid hsp
      have HK := Lib.hid hk
      clear hsp hk hnn
      go_enter Try.func36, Try.ntmps36
      go_wp2_with fail
      refine HL.out.mono ?_; rintro e w1 ⟨rfl, h1, hu1⟩
      have hbad := h1.bad
      obtain ⟨m1, hm1, hB1, hx1⟩ := h1
      have c0 : w1.cell? ⟨g, 0, none⟩ = some (.string (bs s)) := Blk.cell hB1 0
      have c1 : w1.cell? ⟨g, 1, none⟩ = some (.int .i64 m1) := Blk.cell hB1 1
      have c2 : w1.cell? ⟨g, 2, none⟩ = some (.bool (x.num most).2.spoil) := Blk.cell hB1 2
      have f2 := hB1.frozen 2
      have hdl := congrArg List.length (hx1 HSP.out)
      rw [List.length_drop] at hdl
      rw [HSP.out] at c2
      rw [HK.out]
      have hw1 : IntKind.i64.wrap ((s.length : Int) - (m1 : Int)) = (s.length : Int) - (m1 : Int) := i64_eq rfl (by omega) (by omega)
      have hd1 : decide ((s.length : Int) - (m1 : Int) < (k : Int)) = true := by simp; omega
      clear hdl hx1
      go_wp2_with fail
      go_quiet (fail)
      go_wp2
      go_ret
      exact ⟨rfl, hbad.drewN _, (hu1.drewN _).setCell (.inl rfl) _⟩
    · have e1 : x.text most = ((x.num most).2.left.take k, ⟨(x.num most).2.left.drop k, false⟩) := by
        have : ¬ (((x.num most).1 < 0) ∨ ((x.num most).2.left.length : Int) < (x.num most).1) := by rw [hk]; omega
        simp only [Oct.Sc.text, hsp, Oct.Sc.take, if_neg this]
        simp [hk]
      rw [e1]; clear e1
      have HSP := Lib.hid hsp
      have HK := Lib.hid hk
      clear hsp hk hnn
      go_enter Try.func36, Try.ntmps36
      go_wp2_with fail
      refine HL.out.mono ?_; rintro e w1 ⟨rfl, h1, hu1⟩
      obtain ⟨m1, hm1, hB1, hx1⟩ := h1
      have c0 : w1.cell? ⟨g, 0, none⟩ = some (.string (bs s)) := Blk.cell hB1 0
      have c1 : w1.cell? ⟨g, 1, none⟩ = some (.int .i64 m1) := Blk.cell hB1 1
      have c2 : w1.cell? ⟨g, 2, none⟩ = some (.bool (x.num most).2.spoil) := Blk.cell hB1 2
      have f1 := hB1.frozen 1
      have hdl := congrArg List.length (hx1 HSP.out)
      rw [List.length_drop] at hdl
      have HX := Lib.hid (hx1 HSP.out)
      rw [HSP.out] at c2
      rw [HK.out]
      have hm2 : m1 + k ≤ s.length := by omega
      have hw1 : IntKind.i64.wrap ((s.length : Int) - (m1 : Int)) = (s.length : Int) - (m1 : Int) := i64_eq rfl (by omega) (by omega)
      have hw2 : IntKind.i64.wrap ((m1 : Int) + (k : Int)) = (m1 : Int) + (k : Int) := i64_eq rfl (by omega) (by omega)
      have hd1 : decide ((s.length : Int) - (m1 : Int) < (k : Int)) = false := by simp; omega
      clear hdl hx1
      go_wp2_with fail
      go_quiet (fail)
      go_wp2
      have hi0 : (0 : Int) ≤ (m1 : Int) := by omega
      have hi1 : (m1 : Int) ≤ (m1 : Int) + (k : Int) := by omega
      have hi2 : (m1 : Int) + (k : Int) ≤ (s.length : Int) := by omega
      go_quiet (fail)
      go_wp2
      go_ret
      refine ⟨?_, ⟨m1 + k, by omega, ?_, fun _ => by simp only; rw [HX.out, List.drop_drop]⟩, (hu1.drewN _).setCell (.inl rfl) _⟩
      · congr 2
        rw [bs_extract, HX.out, Nat.add_sub_cancel_left]
        rfl
      · rw [HSP.out] at hB1
        exact (fun q => Blk.set_ (Blk.drewN hB1 q) 1 (.int .i64 ((m1 : Int) + (k : Int)))) _
  · have e1 : x.text most = ([], (x.num most).2) := by simp [Oct.Sc.text, hsp]
    have e2 : (x.num most).2.bad = (x.num most).2 := by
      generalize x.num most = z at hsp
      obtain ⟨z1, z2, z3⟩ := z
      simp at hsp; subst hsp; rfl
    rw [e1]; clear e1
    have HSP := Lib.hid hsp
    have HE := Lib.hid e2
    clear hsp e2
    go_enter Try.func36, Try.ntmps36
    go_wp2_with fail
    refine HL.out.mono ?_; rintro e w1 ⟨rfl, h1, hu1⟩
    have hbad := h1.bad
    rw [HE.out] at hbad
    obtain ⟨m1, hm1, hB1, hx1⟩ := h1
    have c0 : w1.cell? ⟨g, 0, none⟩ = some (.string (bs s)) := Blk.cell hB1 0
    have c1 : w1.cell? ⟨g, 1, none⟩ = some (.int .i64 m1) := Blk.cell hB1 1
    have c2 : w1.cell? ⟨g, 2, none⟩ = some (.bool (x.num most).2.spoil) := Blk.cell hB1 2
    have f2 := hB1.frozen 2
    rw [HSP.out] at c2
    go_wp2_with fail
    go_quiet (fail)
    go_wp2
    go_ret
    exact ⟨rfl, hbad.drewN _, (hu1.drewN _).setCell (.inl rfl) _⟩

set_option maxRecDepth 100000 in
set_option maxHeartbeats 1000000 in
theorem rfList_calls (g : Nat) (s : List UInt8) (x : Oct.Sc) (most : Int) (w : World) (h : RfAt w g s x) (hl : s.length ≤ 1099511627776) (hxl : x.left.length ≤ 1099511627776) (hm0 : -9223372036854775808 ≤ most) (hm1 : most ≤ 9223372036854775807) :
    Calls Try.prog 64 #[.pointer (some ⟨g, 0, none⟩), .int .i64 most] w fun e w' => RfAt w' g s (x.list most).2 ∧ (∃ A c, e = .returned (.slice A (x.list most).1.length c) ∧ Fr w' w.heap.size A ((x.list most).1.map strV)) ∧ Upd g w w' := by
  obtain ⟨i0, hi, hz0, hz1, hz2⟩ := info_parts info_str
  have hnl := Oct.num_left_le x most
  have hn0 := Oct.num_nonneg x most
  have hn1 := Oct.num_lt x most hm1
  have hgw := h.lt
  obtain ⟨n, hn⟩ := Int.eq_ofNat_of_zero_le hn0
  have hlist : x.list most = if ((x.num most).2.texts n).2.spoil then ([], ((x.num most).2.texts n).2) else (x.num most).2.texts n := by
    unfold Oct.Sc.list
    rw [hn, Int.toNat_natCast]
  have hbad : (x.num most).2.spoil = true → n = 0 := by
    intro hb
    have : (x.num most).1 = 0 := by
      unfold Oct.Sc.num at hb ⊢
      split
      · rfl
      · rename_i hc
        rw [if_neg hc] at hb
        have := long_bad x hb
        simp only
        omega
    omega
  have HN := rfNum_calls g s x most _ h hl hm0 hm1
  rw [hn] at HN hn0 hn1
  generalize hx1 : (x.num most).2 = x1 at *
  replace HN := Lib.hid HN
  have HLI := Lib.hid hlist
  have HB := Lib.hid hbad
  clear hlist hx1 hn hbad
  go_enter Try.func64, Try.ntmps64
  go_wp2_with fail
  refine HN.out.mono ?_; rintro e w1 ⟨rfl, h1, hu1⟩
  go_wp2_with fail
  go_loopw [6, 7] (fun o v wr => ∃ (k : Nat) (xk : Oct.Sc) (acc : List (List UInt8)), k ≤ n ∧ v = .int .i64 k ∧ acc.length = k ∧ Hid ((x1.texts n = (acc ++ (xk.texts (n - k)).1, (xk.texts (n - k)).2) ∧ k + xk.left.length ≤ x1.left.length ∧ (xk.spoil = true → n = k)) ∨ ((x1.texts n).2 = xk ∧ xk.spoil = true ∧ k ≤ x1.left.length + 1)) ∧
      RfAt wr g s xk ∧ wr.ownsRow w.heap.size 9 1 o acc.length (acc.map strV) ∧ w.heap.size ≤ wr.heap.size ∧ Upd g w wr) (fun _ v _ => n - (intOf v).toNat)
  case atStart => exact ⟨0, x1, [], Nat.zero_le _, rfl, rfl, .inl ⟨by simp, by omega, HB.out⟩, h1, World.ownsRow_nil _ _ _ _, hu1.size, hu1⟩
  case round =>
    clear h1 hu1 HN
    obtain ⟨k, xk, acc, hk, rfl, rfl, HT, hS, hown, hsz, hK⟩ := hrel
    have hS' := hS
    obtain ⟨m1, hm1, hB1, hx1⟩ := hS
    have c2 : wr.cell? ⟨g, 2, none⟩ = some (.bool xk.spoil) := Blk.cell hB1 2
    have hgo := own_blk_ne hown hB1 (by decide)
    cases hsp : xk.spoil
    · rw [hsp] at c2
      obtain ⟨hT1, hT2, hT3⟩ := HT.out.resolve_right (by rintro ⟨_, e, _⟩; rw [hsp] at e; cases e)
      clear HT
      by_cases hlt : acc.length < n
      · obtain ⟨m, hm⟩ : ∃ m, n - acc.length = m + 1 := ⟨n - acc.length - 1, by omega⟩
        have hm' : n - (acc.length + 1) = m := by omega
        have hT' : Hid ((x1.texts n = ((acc ++ [(xk.text 16777216).1]) ++ ((xk.text 16777216).2.texts (n - (acc.length + 1))).1, ((xk.text 16777216).2.texts (n - (acc.length + 1))).2) ∧ acc.length + 1 + (xk.text 16777216).2.left.length ≤ x1.left.length ∧ ((xk.text 16777216).2.spoil = true → n = acc.length + 1)) ∨ ((x1.texts n).2 = (xk.text 16777216).2 ∧ (xk.text 16777216).2.spoil = true ∧ acc.length + 1 ≤ x1.left.length + 1)) := by
          cases hsp2 : (xk.text 16777216).2.spoil
          · refine .inl ⟨?_, ?_, fun e => by cases e⟩
            · rw [hT1, hm, hm', Oct.texts_go _ _ hsp2]
              simp
            · have := (Oct.text_sound _ _ hsp2).2
              omega
          · refine .inr ⟨?_, rfl, by omega⟩
            rw [hT1, hm, Oct.texts_stop _ _ hsp2]
        clear hT1 hT3 hm hm' hsp
        go_wp2_with fail
        (with_reducible refine (rfText_calls g s xk 16777216 _ hS' hl (by omega) (by omega)).mono ?_); rintro e w3 ⟨rfl, h3, hu3⟩
        have hown3 := World.ownsRow.kept hown hu3 (.inr hgo)
        go_wp2_with (at_builtin; refine wpList_append_own _ rfl _ _ 48 rfl w.heap.size 9 i0 (.string .empty) 1 16 Try.underlying48 hi hz0 hz1 hz2 rfl (by decide) _ _ _ rfl (hown3.alloc _) ⟨w3.heap.size, 0, none⟩ 1 1 [strV (xk.text 16777216).1] rfl rfl ?c1 ?c2 ?c3 ?c4 ?c5 ?_)
        case c1 =>
          intro j u hj
          match j, hj with
          | 0, hj => simp at hj; subst hj; simp [Addr.add, strV]
        case c2 => intro u hu; simp at hu; subst hu; rfl
        case c3 => unfold maxLen; omega
        case c4 => omega
        case c5 => have := hu3.size; simp; omega
        intro v' w4 hown4 hgrow _
        have h4 : RfAt w4 g s (xk.text 16777216).2 := (h3.alloc _).grown hgrow (fun e => hgo e.symm)
        have hK4 : Upd g w w4 := ((hK.trans hu3).alloc _).grown hgrow (fun i e => by have := hown.lt i e; omega)
        have hsz4 : w.heap.size ≤ w4.heap.size := hK4.size
        have hown5 : w4.ownsRow w.heap.size 9 1 v' (acc ++ [(xk.text 16777216).1]).length ((acc ++ [(xk.text 16777216).1]).map strV) := by
          rw [List.length_append, List.map_append]; exact hown4
        clear hgrow hown hown3 hown4 h3 hu3 hK hB1 hx1 hS'
        go_wp2
        go_roundw
        case rel => exact ⟨acc.length + 1, _, acc ++ [(xk.text 16777216).1], by omega, by go_num, by simp, hT', h4, hown5, hsz4, hK4⟩
        case measure => simp [intOf]; omega
      · obtain rfl : n = acc.length := by omega
        have hli : x.list most = (acc, xk) := by
          rw [HLI.out, hT1, Nat.sub_self, Oct.texts_zero, List.append_nil, if_neg (by simp [hsp])]
        have HLI2 := Lib.hid hli
        clear hT1 hT3 hli
        go_wp2
        go_ret
        rw [HLI2.out]
        refine ⟨hS', ?_, hK⟩
        rcases hown.2 with ⟨rfl, h0⟩ | ⟨gg, cap, cur, rfl, _⟩
        · obtain rfl : acc = [] := List.eq_nil_of_length_eq_zero h0
          exact ⟨none, 0, rfl, Fr.nil⟩
        · exact ⟨some ⟨gg, 0, none⟩, cap, rfl, Fr.of_own hown⟩
    · rw [hsp] at c2
      have hli : x.list most = ([], xk) := by
        rcases HT.out with ⟨h1, h2, h3⟩ | ⟨h1, h2, h3⟩
        · rw [HLI.out, h1, ← h3 hsp, Nat.sub_self, Oct.texts_zero, if_pos hsp]
        · rw [HLI.out, h1, if_pos hsp]
      have HLI2 := Lib.hid hli
      clear HT hli
      by_cases hlt : acc.length < n
      all_goals
        go_wp2
        go_ret
        rw [HLI2.out]
        exact ⟨hS', ⟨none, 0, rfl, Fr.nil⟩, hK⟩

end Go.Proofs.Ytcgnjdkennkheaa
