/-
  Words for memory: a slice that reads as a list of cells, a block that is known whole, what stays when a world grows. Bytes as cells.
-/
import Derived.Test.YtcgnjdkennkheaaGreatDoorProg
import Derived.WalkKit
import Derived.WalkSpells
import Derived.WalkLawsBesides
import Derived.KernelRfl
import Derived.Lib.Strings
import Derived.Lib.Builder
import Derived.Laws.BitsAllLaws
import Derived.Deep.Draws
set_option linter.unusedVariables false
set_option maxRecDepth 100000
set_option linter.unusedSimpArgs false
namespace Go.Proofs.YtcgnjdkennkheaaGreatDoor
open Go.RowKit

theorem ret_int {k : IntKind} {a b : Int} (h : a = b) : Ending.returned (.int k a) = .returned (.int k b) := by rw [h]
theorem ret_bool {a b : Bool} (h : a = b) : Ending.returned (.bool a) = .returned (.bool b) := by rw [h]

/-- A list of bytes as a Go string. -/
def bs (l : List UInt8) : ByteArray := ⟨l.toArray⟩
theorem bs_size (l : List UInt8) : (bs l).size = l.length := by simp [bs, ByteArray.size]
theorem bs_toList (l : List UInt8) : (bs l).data.toList = l := by simp [bs]
theorem bs_of (s : ByteArray) : bs s.data.toList = s := by simp [bs]
theorem bs_append (a b : List UInt8) : bs a ++ bs b = bs (a ++ b) := by
  apply ByteArray.ext; simp [bs, ByteArray.data_append]
theorem bs_inj {a b : List UInt8} : bs a = bs b ↔ a = b := by
  constructor
  · intro h
    have := congrArg (fun s : ByteArray => s.data.toList) h
    simpa [bs] using this
  · rintro rfl; rfl
theorem bs_ex (s : ByteArray) : ∃ l, s = bs l := ⟨_, (bs_of s).symm⟩
theorem bs_toList2 (l : List UInt8) : (bs l).toList = l := by
  rw [Go.ByteArray.toList_eq]
  exact bs_toList l
theorem bs_extract (l : List UInt8) (a b : Nat) : (bs l).extract a b = bs ((l.drop a).take (b - a)) := by
  apply ByteArray.ext
  apply Array.toList_inj.1
  rw [ByteArray.data_extract]
  simp [bs, List.extract_eq_take_drop]
theorem bs_extract_end (l : List UInt8) (a : Nat) : (bs l).extract a l.length = bs (l.drop a) := by
  rw [bs_extract, List.take_of_length_le (by simp)]
theorem bs_extract_begin (l : List UInt8) (b : Nat) : (bs l).extract 0 b = bs (l.take b) := by
  rw [bs_extract]; simp
theorem bs_get (l : List UInt8) (i : Nat) (h : i < (bs l).size) : (bs l)[i] = l[i]'(by rwa [bs_size] at h) := by
  simp [bs, ByteArray.getElem_eq_getElem_data]
theorem i64_eq {n m : Int} (h : n = m) (h0 : -9223372036854775808 ≤ m) (h1 : m ≤ 9223372036854775807) : IntKind.i64.wrap n = m := by rw [h, IntKind.wrap_i64]; omega
theorem u64_eq {n m : Int} (h : n = m) (h0 : 0 ≤ m) (h1 : m < 18446744073709551616) : IntKind.u64.wrap n = m := by
  have e : IntKind.u64.wrap n = n % 18446744073709551616 := rfl
  rw [e, h]
  exact Int.emod_eq_of_lt h0 h1
theorem wrap64_b (c : UInt8) : wrap64 (c.toNat : Int) = c.toNat := by have := c.toNat_lt; unfold wrap64; omega
/-- n<<8 | c, where nothing is lost. -/
theorem shl8_or (m : Nat) (c : UInt8) (h : m * 256 + c.toNat < 18446744073709551616) : bits .or .u64 (IntKind.u64.wrap ((m : Int) * 256)) c.toNat = ((m * 256 + c.toNat : Nat) : Int) := by
  have hc : c.toNat < 2 ^ 8 := c.toNat_lt
  have hw : IntKind.u64.wrap ((m : Int) * 256) = ((m * 256 : Nat) : Int) := by
    have e : IntKind.u64.wrap ((m : Int) * 256) = ((m : Int) * 256) % 18446744073709551616 := rfl
    rw [e]
    omega
  have h1 : m * 256 < 18446744073709551616 := Nat.lt_of_le_of_lt (Nat.le_add_right _ _) h
  have h2 : c.toNat < 18446744073709551616 := Nat.lt_of_le_of_lt (Nat.le_add_left _ _) h
  rw [hw, u64_or_nat (m * 256) c.toNat h1 h2]
  congr 1
  have := Nat.two_pow_add_eq_or_of_lt hc m
  rw [Nat.mul_comm (2 ^ 8) m] at this
  exact this.symm
theorem ret_str {a b : List UInt8} (h : a = b) : Ending.returned (.string (bs a)) = .returned (.string (bs b)) := by rw [h]

theorem map_ne {α β : Type} (f : α → β) {l : List α} {k : Nat} (h : k < l.length) : l.map f ≠ [] := by
  intro e
  have := congrArg List.length e
  simp at this
  rw [this] at h
  simp at h
/-- A slice whose cells, from its address on, are xs; it lies below block B. -/
def Rd (w : World) (B : Nat) (A : Option Addr) (xs : List Value) : Prop :=
  xs ≠ [] → ∃ b off, A = some ⟨b, off, none⟩ ∧ b < B ∧ ∀ j u, xs[j]? = some u → w.cell? ⟨b, off + j, none⟩ = some u

section
variable {w w' : World} {B B' : Nat} {A : Option Addr} {xs : List Value}
theorem Rd.nil : Rd w B A [] := fun h => absurd rfl h
theorem Rd.keep (h : Rd w B A xs) (hk : ∀ p : Addr, p.block < B → w'.cell? p = w.cell? p) : Rd w' B A xs := fun hx => by
  obtain ⟨b, off, e, hb, hc⟩ := h hx
  exact ⟨b, off, e, hb, fun j u hu => (hk _ hb).trans (hc j u hu)⟩
theorem Rd.more (h : Rd w B A xs) (hB : B ≤ B') : Rd w B' A xs := fun hx => by
  obtain ⟨b, off, e, hb, hc⟩ := h hx
  exact ⟨b, off, e, by omega, hc⟩
theorem Rd.below {C : Nat} (h : Rd w B A xs) (hb : Below C w w') (hC : B ≤ C) : Rd w' B A xs := h.keep fun p hp => hb.cell (by omega)
theorem Rd.drew (h : Rd w B A xs) : Rd w.drew B A xs := h
theorem Rd.drewN (h : Rd w B A xs) (k : Nat) : Rd (w.drewN k) B A xs := h
theorem Rd.grown {row : Option Nat} (h : Rd w B A xs) (hg : w.grownBy w' row) (hB : B ≤ w.heap.size) (hr : ∀ g, row = some g → B ≤ g) : Rd w' B A xs :=
  h.keep fun p hp => World.cell?_of_block (hg.block p.block (by omega) (fun e => by have := hr _ e.symm; omega))
theorem Rd.setCell (h : Rd w B A xs) {p : Addr} (hB : B ≤ p.block) (u : Value) : Rd (w.setCell p u) B A xs :=
  h.keep fun q hq => World.cell?_setCell_other w p q u (fun e => by subst e; omega)
theorem Rd.of_own {base size n c : Nat} {e : TypeId} (h : w.ownsRow base e size (.slice A n c) n xs) : Rd w w.heap.size A xs := fun hx => by
  have hn : 0 < n := by
    rcases Nat.eq_zero_or_pos n with h0 | h0
    · have := h.1; rw [h0, Nat.zero_mul] at this; exact absurd (List.eq_nil_of_length_eq_zero this) hx
    · exact h0
  rcases h.2 with ⟨_, h0⟩ | ⟨g, cap, cur, hv, _, hh, _⟩
  · omega
  · have hA : A = some ⟨g, 0, none⟩ := by injection hv
    subst hA
    exact ⟨g, 0, rfl, (Array.getElem?_eq_some_iff.1 hh).1, fun j u hu => by have := h.cells (g := g) rfl j u hu; rwa [Addr.add_lit] at this⟩
end

/-- A slice whose cells are xs, in a block from base on. -/
def Fr (w : World) (base : Nat) (A : Option Addr) (xs : List Value) : Prop :=
  xs ≠ [] → ∃ b off, A = some ⟨b, off, none⟩ ∧ base ≤ b ∧ b < w.heap.size ∧ ∀ j u, xs[j]? = some u → w.cell? ⟨b, off + j, none⟩ = some u
section
variable {w w' : World} {base : Nat} {A : Option Addr} {xs : List Value}
theorem Fr.nil : Fr w base A [] := fun h => absurd rfl h
theorem Fr.rd (h : Fr w base A xs) : Rd w w.heap.size A xs := fun hx => by
  obtain ⟨b, off, e, _, hb, hc⟩ := h hx
  exact ⟨b, off, e, hb, hc⟩
theorem Fr.less {base' : Nat} (h : Fr w base A xs) (hb : base' ≤ base) : Fr w base' A xs := fun hx => by
  obtain ⟨b, off, e, h1, h2, hc⟩ := h hx
  exact ⟨b, off, e, by omega, h2, hc⟩
theorem Fr.of_own {base size n c : Nat} {e : TypeId} (h : w.ownsRow base e size (.slice A n c) n xs) : Fr w base A xs := fun hx => by
  have hn : 0 < n := by
    rcases Nat.eq_zero_or_pos n with h0 | h0
    · have := h.1; rw [h0, Nat.zero_mul] at this; exact absurd (List.eq_nil_of_length_eq_zero this) hx
    · exact h0
  rcases h.2 with ⟨_, h0⟩ | ⟨g, cap, cur, hv, hg, hh, _⟩
  · omega
  · have hA : A = some ⟨g, 0, none⟩ := by injection hv
    subst hA
    exact ⟨g, 0, rfl, hg, (Array.getElem?_eq_some_iff.1 hh).1, fun j u hu => by have := h.cells (g := g) rfl j u hu; rwa [Addr.add_lit] at this⟩
end

/-- Block g is just the cells cs of element type t; none is frozen. -/
def Blk (w : World) (g : Nat) (t : TypeId) (cs : Array Value) : Prop := w.heap[g]? = some (.cells cs t (0, 0))

section
variable {w w' : World} {g : Nat} {t : TypeId} {cs : Array Value}
theorem Blk.lt (h : Blk w g t cs) : g < w.heap.size := by
  rcases Nat.lt_or_ge g w.heap.size with hlt | hge
  · exact hlt
  · unfold Blk at h; rw [Array.getElem?_eq_none hge] at h; cases h
theorem Blk.cell (h : Blk w g t cs) (i : Nat) : w.cell? ⟨g, i, none⟩ = cs[i]? := cell_of_row w g i cs t (0, 0) h
theorem Blk.some_ (h : Blk w g t cs) (i : Nat) (hi : i < cs.size) : ∃ u, w.cell? ⟨g, i, none⟩ = some u := ⟨cs[i], by rw [h.cell, Array.getElem?_eq_getElem hi]⟩
theorem Blk.frozen (h : Blk w g t cs) (i : Nat) : w.frozen? ⟨g, i, none⟩ = false := by
  unfold Blk at h
  simp [World.frozen?, h]
theorem Blk.new (w : World) (t : TypeId) (cs : Array Value) : Blk (w.alloc (.cells cs t)) w.heap.size t cs := heap_alloc_new w _
theorem Blk.drew (h : Blk w g t cs) : Blk w.drew g t cs := h
theorem Blk.drewN (h : Blk w g t cs) (n : Nat) : Blk (w.drewN n) g t cs := h
theorem Blk.alloc (h : Blk w g t cs) (o : Obj) : Blk (w.alloc o) g t cs := (Below.heap_alloc w o g h.lt).trans h
theorem Blk.set_ (h : Blk w g t cs) (i : Nat) (u : Value) : Blk (w.setCell ⟨g, i, none⟩ u) g t (cs.setIfInBounds i u) := by
  unfold Blk at h ⊢
  simp [World.setCell, Array.getElem?_modify, h]
theorem Blk.far (h : Blk w g t cs) {p : Addr} (hp : g ≠ p.block) (u : Value) : Blk (w.setCell p u) g t cs := (Below.heap_setCell w p u g hp).trans h
theorem Blk.below {B : Nat} (h : Blk w g t cs) (hb : Below B w w') (hg : g < B) : Blk w' g t cs := (hb.block g hg).trans h
theorem Blk.grown {row : Option Nat} (h : Blk w g t cs) (hb : w.grownBy w' row) (hg : some g ≠ row) : Blk w' g t cs := (hb.block g h.lt hg).trans h
theorem Blk.diff {g' : Nat} {t' : TypeId} {cs' : Array Value} (h : Blk w g t cs) (h' : Blk w g' t' cs') (hne : t ≠ t') : g ≠ g' := by
  rintro rfl
  unfold Blk at h h'
  rw [h] at h'
  injection h' with h'
  injection h' with _ ht
  exact hne ht
end

/-- A row of one-cell elements that is full is its block. -/
theorem blk_of_own {w : World} {base g n : Nat} {e : TypeId} {xs : List Value} (h : w.ownsRow base e 1 (.slice (some ⟨g, 0, none⟩) n n) n xs) (hn : 0 < n) : Blk w g e xs.toArray := by
  rcases h.2 with ⟨hv, _⟩ | ⟨g', cap, cur, hv, _, hh, _, _, hs, ht⟩
  · injection hv with hv; cases hv
  · have h1 : g' = g := by injection hv with hv; injection hv with hv; injection hv with hv; exact hv.symm
    have h2 : cap = n := by injection hv with _ _ hv; exact hv.symm
    subst h1 h2
    have hl : cur.toList = xs := by
      rw [← ht, List.take_of_length_le (by simp; omega)]
    unfold Blk
    rw [hh, ← hl]
theorem Blk.rd {w : World} {g : Nat} {t : TypeId} {xs : List Value} (h : Blk w g t xs.toArray) : Rd w w.heap.size (some ⟨g, 0, none⟩) xs :=
  fun _ => ⟨g, 0, rfl, h.lt, fun j u hu => by rw [Nat.zero_add, h.cell]; simpa using hu⟩

/-- All that was there is as it was, and more may be there. -/
abbrev Ext (w w' : World) : Prop := Below w.heap.size w w'
theorem Ext.refl (w : World) : Ext w w := Below.refl _ _
theorem Ext.trans {a b c : World} (h : Ext a b) (k : Ext b c) : Ext a c := Below.trans h (k.mono h.size)
theorem Ext.drew {a b : World} (h : Ext a b) : Ext a b.drew := Below.drew h
theorem Ext.drewN {a b : World} (h : Ext a b) (n : Nat) : Ext a (b.drewN n) := ⟨h.os, h.tape, h.output, h.size, h.block⟩
theorem Ext.alloc {a b : World} (h : Ext a b) (o : Obj) : Ext a (b.alloc o) := Below.alloc h h.size o
theorem Ext.setCell {a b : World} (h : Ext a b) {p : Addr} (hp : a.heap.size ≤ p.block) (u : Value) : Ext a (b.setCell p u) := Below.setCell h hp u
/-- Only block g, and what is new, has turned. -/
abbrev Upd (g : Nat) (w w' : World) : Prop := w.grownBy w' (some g)
theorem Upd.refl (g : Nat) (w : World) : Upd g w w := World.grownBy.refl _ _
theorem Upd.trans {g : Nat} {a b c : World} (h : Upd g a b) (k : Upd g b c) : Upd g a c :=
  ⟨k.os.trans h.os, k.tape.trans h.tape, k.output.trans h.output, Nat.le_trans h.size k.size, fun i hi hn => (k.block i (Nat.lt_of_lt_of_le hi h.size) hn).trans (h.block i hi hn)⟩
theorem Upd.drew {g : Nat} {a b : World} (h : Upd g a b) : Upd g a b.drew := ⟨h.os, h.tape, h.output, h.size, h.block⟩
theorem Upd.drewN {g : Nat} {a b : World} (h : Upd g a b) (n : Nat) : Upd g a (b.drewN n) := ⟨h.os, h.tape, h.output, h.size, h.block⟩
theorem Upd.alloc {g : Nat} {a b : World} (h : Upd g a b) (o : Obj) : Upd g a (b.alloc o) :=
  ⟨h.os, h.tape, h.output, Nat.le_trans h.size (by simp), fun i hi hne => (Below.heap_alloc b o i (Nat.lt_of_lt_of_le hi h.size)).trans (h.block i hi hne)⟩
theorem Upd.setCell {g : Nat} {a b : World} (h : Upd g a b) {p : Addr} (hp : p.block = g ∨ a.heap.size ≤ p.block) (u : Value) : Upd g a (b.setCell p u) :=
  ⟨h.os, h.tape, h.output, by simpa [World.setCell] using h.size, fun i hi hne => (Below.heap_setCell b p u i (by
    rintro rfl
    rcases hp with hp | hp
    · exact hne (by rw [hp])
    · omega)).trans (h.block i hi hne)⟩
theorem Upd.of_ext {g : Nat} {a b : World} (h : Ext a b) : Upd g a b := ⟨h.os, h.tape, h.output, h.size, fun i hi _ => h.block i hi⟩
theorem Upd.ext {g : Nat} {a b c : World} (h : Upd g a b) (k : Ext b c) : Upd g a c := h.trans (.of_ext k)
/-- What turns a block of the call's own leaves the rest. -/
theorem Ext.upd {g : Nat} {a b c : World} (h : Ext a b) (k : Upd g b c) (hg : a.heap.size ≤ g) : Ext a c :=
  Below.grown h k h.size (fun i e => by injection e with e; omega)
theorem Below.upd {B g : Nat} {a b c : World} (h : Below B a b) (k : Upd g b c) (hB : B ≤ b.heap.size) (hg : B ≤ g) : Below B a c :=
  Below.grown h k hB (fun i e => by injection e with e; omega)
theorem Ext.below {B : Nat} {a b c : World} (h : Ext a b) (k : Below B b c) (hB : a.heap.size ≤ B) : Ext a c := Below.trans h (k.mono hB)
/-- The blocks of S, as far as they were there, are as they were. -/
structure Keep (S : Nat → Prop) (w w' : World) : Prop where
  os : w'.os = w.os
  tape : w'.tape = w.tape
  output : w'.output = w.output
  size : w.heap.size ≤ w'.heap.size
  block : ∀ k, k < w.heap.size → S k → w'.heap[k]? = w.heap[k]?
theorem Keep.refl (S : Nat → Prop) (w : World) : Keep S w w := ⟨rfl, rfl, rfl, Nat.le_refl _, fun _ _ _ => rfl⟩
theorem Keep.trans {S : Nat → Prop} {a b c : World} (h : Keep S a b) (k : Keep S b c) : Keep S a c :=
  ⟨k.os.trans h.os, k.tape.trans h.tape, k.output.trans h.output, Nat.le_trans h.size k.size, fun i hi hs => (k.block i (Nat.lt_of_lt_of_le hi h.size) hs).trans (h.block i hi hs)⟩
theorem Keep.mono {S T : Nat → Prop} {a b : World} (h : Keep S a b) (hT : ∀ k, k < a.heap.size → T k → S k) : Keep T a b := ⟨h.os, h.tape, h.output, h.size, fun k hk ht => h.block k hk (hT k hk ht)⟩
theorem Keep.of_ext {S : Nat → Prop} {a b : World} (h : Ext a b) : Keep S a b := ⟨h.os, h.tape, h.output, h.size, fun k hk _ => h.block k hk⟩
theorem Keep.of_grown {S : Nat → Prop} {a b : World} {row : Option Nat} (h : a.grownBy b row) (hr : ∀ g, row = some g → ¬ S g) : Keep S a b :=
  ⟨h.os, h.tape, h.output, h.size, fun k hk hs => h.block k hk (fun e => hr k e.symm hs)⟩
theorem Keep.of_upd {S : Nat → Prop} {g : Nat} {a b : World} (h : Upd g a b) (hr : ¬ S g) : Keep S a b := .of_grown h (fun i e => by injection e with e; subst e; exact hr)
theorem Keep.drew {S : Nat → Prop} {a b : World} (h : Keep S a b) : Keep S a b.drew := ⟨h.os, h.tape, h.output, h.size, h.block⟩
theorem Keep.drewN {S : Nat → Prop} {a b : World} (h : Keep S a b) (n : Nat) : Keep S a (b.drewN n) := ⟨h.os, h.tape, h.output, h.size, h.block⟩
theorem Keep.alloc {S : Nat → Prop} {a b : World} (h : Keep S a b) (o : Obj) : Keep S a (b.alloc o) := h.trans (.of_ext ((Ext.refl b).alloc o))
theorem Keep.setCell {S : Nat → Prop} {a b : World} (h : Keep S a b) {p : Addr} (hp : ¬ S p.block) (u : Value) : Keep S a (b.setCell p u) :=
  h.trans ⟨rfl, rfl, rfl, by simp [World.setCell], fun k _ hs => Below.heap_setCell b p u k (by rintro rfl; exact hp hs)⟩
theorem Keep.upd {g : Nat} {a b : World} (h : Keep (fun k => k ≠ g) a b) : Upd g a b := ⟨h.os, h.tape, h.output, h.size, fun i hi hne => h.block i hi (fun e => hne (by rw [e]))⟩
theorem Keep.upd_ {g : Nat} {a b : World} (h : Keep (fun k => k < a.heap.size ∧ k ≠ g) a b) : Upd g a b := ⟨h.os, h.tape, h.output, h.size, fun i hi hne => h.block i hi ⟨hi, fun e => hne (by rw [e])⟩⟩
theorem Keep.ext {a b : World} (h : Keep (fun k => k < a.heap.size) a b) : Ext a b :=
  ⟨h.os, h.tape, h.output, h.size, fun i hi => h.block i hi hi⟩
theorem Blk.kept {S : Nat → Prop} {w w' : World} {g : Nat} {t : TypeId} {cs : Array Value} (h : Blk w g t cs) (hb : Keep S w w') (hg : S g) : Blk w' g t cs := (hb.block g h.lt hg).trans h
theorem Rd.kept {S : Nat → Prop} {w w' : World} {B : Nat} {A : Option Addr} {xs : List Value} (h : Rd w B A xs) (hb : Keep S w w') (hB : B ≤ w.heap.size) (hS : ∀ k, k < B → S k) : Rd w' B A xs :=
  h.keep fun p hp => World.cell?_of_block (hb.block p.block (by omega) (hS _ hp))
theorem Fr.kept {S : Nat → Prop} {w w' : World} {base : Nat} {A : Option Addr} {xs : List Value} (h : Fr w base A xs) (hb : Keep S w w') (hS : ∀ k, base ≤ k → S k) : Fr w' base A xs := fun hx => by
  obtain ⟨b, off, e, h1, h2, hc⟩ := h hx
  exact ⟨b, off, e, h1, Nat.lt_of_lt_of_le h2 hb.size, fun j u hu => (World.cell?_of_block (hb.block b h2 (hS b h1))).trans (hc j u hu)⟩
theorem Fr.ext {w w' : World} {base : Nat} {A : Option Addr} {xs : List Value} (h : Fr w base A xs) (hb : Ext w w') : Fr w' base A xs := h.kept (S := fun _ => True) (.of_ext hb) (fun _ _ => trivial)
/-- Rows of other types are other blocks. -/
theorem own_blk_ne {w : World} {base g n : Nat} {e t : TypeId} {size : Nat} {v : Value} {xs : List Value} {cs : Array Value} (h : w.ownsRow base e size v n xs) (hg : Blk w g t cs) (hne : e ≠ t) : v.ownBlock ≠ some g := by
  rcases h.2 with ⟨rfl, _⟩ | ⟨g', cap, cur, rfl, _, hh, _⟩
  · simp [Value.ownBlock]
  · intro he
    have : g' = g := by simpa [Value.ownBlock] using he
    subst this
    exact Blk.diff (t := e) hh hg hne rfl

/-- The two rules by which the walk reads what was there. -/
theorem ext_cells {W W1 : World} (hb : Ext W W1) : (∀ b o, b < W.heap.size → W1.cell? ⟨b, o, none⟩ = W.cell? ⟨b, o, none⟩) ∧ (∀ b o, b < W.heap.size → W1.frozen? ⟨b, o, none⟩ = W.frozen? ⟨b, o, none⟩) :=
  ⟨fun b o h => hb.cell (p := ⟨b, o, none⟩) h, fun b o h => hb.frozen (p := ⟨b, o, none⟩) h⟩

/-- A byte as a cell. -/
def byteV (c : UInt8) : Value := .int .u8 c.toNat
theorem bytes_cells (l : List UInt8) : Lib.byteCells l = l.map byteV := rfl

/-! ### A builder of the call's own -/
theorem owns_ext {w w' : World} {B : Nat} {e : TypeId} {size n : Nat} {v : Value} {xs : List Value} (h : w.ownsRow B e size v n xs) (hb : Ext w w') : w'.ownsRow B e size v n xs :=
  h.kept (row := none) ⟨hb.os, hb.tape, hb.output, hb.size, fun k hk _ => hb.block k hk⟩ (by cases v.ownBlock <;> simp)
theorem builder_ext {T e : TypeId} {B b : Nat} {bs : List Value} {w w' : World} (h : Lib.IsBuilder T e B b bs w) (hb : Ext w w') : Lib.IsBuilder T e B b bs w' := by
  rcases h with h | h
  · obtain ⟨h1, v, h2, h3, h4⟩ := h
    exact .inl ⟨h1, v, (hb.block b (Lib.BuilderAt.lt ⟨h1, v, h2, h3, h4⟩)).trans h2, owns_ext h3 hb, h4⟩
  · obtain ⟨h1, v, h2, h3, h4⟩ := h
    exact .inr ⟨h1, v, (hb.block b (Lib.BuilderAt.lt ⟨h1, v, h2, h3, h4⟩)).trans h2, owns_ext h3 hb, h4⟩
theorem strCells_bs (l : List UInt8) : Lib.strCells (bs l) = Lib.byteCells l := by
  simp [Lib.strCells, Lib.byteCells, bs]
theorem byteCells_append (a b : List UInt8) : Lib.byteCells (a ++ b) = Lib.byteCells a ++ Lib.byteCells b := by simp [Lib.byteCells]
theorem byteCells_length (a : List UInt8) : (Lib.byteCells a).length = a.length := by simp [Lib.byteCells]

/-- A text as a cell. -/
def strV (l : List UInt8) : Value := .string (bs l)

theorem info_u8 : (Tryz.prog.info? 5).map (fun i => (i.zero, i.size, i.bytes)) = some (some (.int .u8 0), 1, 1) := by kernel_rfl

theorem byte_shr (m k : Nat) : Value.int .u8 ((m : Int) / 2 ^ (8 * k) % 256) = byteV (UInt8.ofNat (m / 256 ^ k)) := by
  unfold byteV
  congr 1
  rw [UInt8.toNat_ofNat']
  have h : (2 : Int) ^ (8 * k) = ((256 ^ k : Nat) : Int) := by
    rw [show (256 : Nat) = 2 ^ 8 from rfl, ← Nat.pow_mul, Int.natCast_pow]
    rfl
  rw [h]
  omega

theorem made_bytes (n : Nat) : (madeCells (Value.int .u8 0).cells (n * 1)).toList = (List.replicate n (0 : UInt8)).map byteV := by
  show (madeCells #[Value.int .u8 0] (n * 1)).toList = _
  rw [toList_madeCells_one, Nat.mul_one, List.map_replicate]
  rfl

set_option maxRecDepth 100000 in
/-- string(b), b a slice of bytes. -/
theorem conv_bytes (w : World) (B : Nat) (A : Option Addr) (l : List UInt8) (n cap : Nat) (hn : l.length = n) (h : Rd w B A (l.map byteV)) :
    (convert 87 9 (.slice A n cap)).run Tryz.prog w = .ok (.string (bs l)) w := by
  rcases l with _ | ⟨c, l⟩
  · simp at hn; subst hn
    rcases A with _ | a
    · exact run_convert_bytes_nil w _ _ Tryz.underlying87 Tryz.underlying5 0 cap _ Tryz.underlying9
    · rw [run_convert_bytes_string w _ _ _ _ _ _ Tryz.underlying87 Tryz.underlying5 Tryz.underlying9]
      rw [run_bytesToString w a 0 cap [] (by simp [loadCells, loadCellsFrom])]
      rfl
  · obtain ⟨b, off, rfl, _, hc⟩ := h (by simp)
    have hr := run_convert_bytes_arg (P := Tryz.prog) w _ _ Tryz.underlying87 Tryz.underlying5 b off n cap ((c :: l).map fun c => (c.toNat : Int)) (by simpa using hn) (fun i hi => by
      have hi' : i < (c :: l).length := by omega
      have := hc i (byteV (c :: l)[i]) (by rw [List.getElem?_map, List.getElem?_eq_getElem hi']; rfl)
      rw [this]
      simp only [byteV]
      congr 2
      rw [List.getD_eq_getElem?_getD, List.getElem?_map, List.getElem?_eq_getElem hi']
      simp) _ Tryz.underlying9
    rw [hr]
    congr 2
    apply ByteArray.ext
    apply Array.toList_inj.1
    rw [strOfNums_data]
    simp only [bs, List.map_map]
    conv => rhs; rw [← List.map_id (c :: l)]
    apply List.map_congr_left
    intro x _
    simp

set_option maxRecDepth 100000 in
theorem conv_one (W : World) (c : Int) (h0 : 0 ≤ c) (h1 : c < 256) :
    (convert 87 9 (.slice (some ⟨W.heap.size, 0, none⟩) 1 1)).run Tryz.prog (W.alloc (.cells #[.int .u8 c] 5)) = .ok (.string (bs [UInt8.ofNat c.toNat])) (W.alloc (.cells #[.int .u8 c] 5)) := by
  refine conv_bytes _ (W.heap.size + 1) _ [UInt8.ofNat c.toNat] 1 1 rfl ?_
  intro _
  refine ⟨_, _, rfl, Nat.lt_succ_self _, fun j u hu => ?_⟩
  match j, hu with
  | 0, hu =>
    simp only [List.map_cons, List.map_nil, List.getElem?_cons_zero, Option.some.injEq] at hu
    subst hu
    rw [World.cell?_alloc_at _ _ _ _ rfl]
    simp only [byteV]
    obtain ⟨n, rfl⟩ := Int.eq_ofNat_of_zero_le h0
    have hn : n < 256 := by omega
    simp only [Nat.add_zero, Int.toNat_natCast, UInt8.toNat_ofNat']
    rw [Nat.mod_eq_of_lt hn]
    rfl

end Go.Proofs.YtcgnjdkennkheaaGreatDoor
