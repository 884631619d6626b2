/-
  Plain functions for layer 16 (seal): freezes, heads and stones as bytes, and read again. No program in sight.
-/
import Derived.Test.YtcgnjdkennkheaaDoorOctB
set_option linter.unusedVariables false
set_option maxRecDepth 100000
set_option linter.unusedSimpArgs false
namespace Go.Proofs.YtcgnjdkennkheaaDoor
namespace Seal
open Oct

def u64 (t : Int) : Nat := (t % 18446744073709551616).toNat
theorem u64_lt (t : Int) : u64 t < 18446744073709551616 := by unfold u64; omega
theorem u64_id (t : Int) (h0 : 0 ≤ t) (h1 : t ≤ 9223372036854775807) : (u64 t : Int) = t := by unfold u64; omega
theorem u64_nat (t : Int) (h0 : 0 ≤ t) (h1 : t ≤ 9223372036854775807) : u64 t = t.toNat := by unfold u64; omega
/-- What is copied into an array of 32. -/
def pad32 (s : List UInt8) : List UInt8 := (s ++ List.replicate 32 0).take 32
theorem pad32_length (s : List UInt8) : (pad32 s).length = 32 := by simp [pad32]
theorem pad32_id (s : List UInt8) (h : s.length = 32) : pad32 s = s := by
  unfold pad32
  rw [List.take_append_of_le_length (by omega), List.take_of_length_le (by omega)]
/-- The document's hash at a scanner's place. -/
def hashR (x : Sc) : List UInt8 × Sc := if (x.text 32).1.length = 32 then x.text 32 else (List.replicate 32 0, (x.text 32).2.bad)
theorem hashR_put (s : List UInt8) (h : s.length = 32) (r : List UInt8) : hashR ⟨text s ++ r, false⟩ = (s, ⟨r, false⟩) := by
  unfold hashR
  rw [text_put s (by omega) r 32 (by omega), if_pos h]
theorem hashR_sound (x : Sc) (h : (hashR x).2.spoil = false) : x.spoil = false ∧ (hashR x).1.length = 32 ∧ x.left = text (hashR x).1 ++ (hashR x).2.left := by
  unfold hashR at h ⊢
  split at h
  · rename_i hl
    rw [if_pos hl]
    exact ⟨(text_sound x 32 h).1, hl, text_back x 32 h⟩
  · cases h
/-- The document's scanner behind a letter. -/
def begin_ (s : List UInt8) (c : UInt8) : Sc := match s with
  | d :: r => if d = c then ⟨r, false⟩ else ⟨[], true⟩
  | [] => ⟨[], true⟩
theorem begin_sound (s : List UInt8) (c : UInt8) (h : (begin_ s c).spoil = false) : s = c :: (begin_ s c).left := by
  unfold begin_ at h ⊢
  split at h
  · split at h
    · rename_i hd
      rw [if_pos hd, hd]
    · cases h
  · cases h
theorem begin_put (c : UInt8) (r : List UInt8) : begin_ (c :: r) c = ⟨r, false⟩ := if_pos rfl

/-! ### Freezes -/
structure Fz where
  win : Int
  cnt : Int
  root : List UInt8
namespace Fz
def may (f : Fz) : Prop := 0 ≤ f.win ∧ f.win ≤ 1125899906842624 ∧ 1 ≤ f.cnt ∧ f.cnt ≤ 4000
instance (f : Fz) : Decidable f.may := by unfold may; infer_instance
def bytes (f : Fz) : List UInt8 := 70 :: (put (u64 f.win) ++ (put (u64 f.cnt) ++ text f.root))
def parse (x : Sc) : Fz × Sc :=
  let a := x.num 1125899906842624
  let b := a.2.num 4000
  let c := b.2.text 32
  (⟨a.1, b.1, pad32 c.1⟩, c.2)
theorem parse_put (f : Fz) (hm : f.may) (h : f.root.length = 32) (r : List UInt8) : parse ⟨put (u64 f.win) ++ (put (u64 f.cnt) ++ (text f.root ++ r)), false⟩ = (f, ⟨r, false⟩) := by
  obtain ⟨m1, m2, m3, m4⟩ := hm
  have e1 := u64_id f.win (by omega) (by omega)
  have e2 := u64_id f.cnt (by omega) (by omega)
  unfold parse
  simp only [num_put (u64 f.win) (u64_lt _) _ 1125899906842624 (by omega), num_put (u64 f.cnt) (u64_lt _) _ 4000 (by omega), text_put f.root (by omega) r 32 (by omega), pad32_id f.root h, e1, e2]
def read (s : List UInt8) : Option Fz := match s with
  | 70 :: r => if (parse ⟨r, false⟩).1.may ∧ (parse ⟨r, false⟩).1.bytes = s then some (parse ⟨r, false⟩).1 else none
  | _ => none
theorem read_iff (s : List UInt8) (f : Fz) : read s = some f ↔ f.may ∧ f.root.length = 32 ∧ s = f.bytes := by
  constructor
  · intro h
    unfold read at h
    split at h
    · split at h
      · rename_i hc
        injection h with h
        subst h
        exact ⟨hc.1, pad32_length _, hc.2.symm⟩
      · cases h
    · cases h
  · rintro ⟨hm, hl, rfl⟩
    have hp := parse_put f hm hl []
    rw [List.append_nil] at hp
    unfold read bytes
    simp only [hp]
    exact if_pos ⟨hm, trivial⟩
def readR (s : List UInt8) : Option Fz :=
  let x := begin_ s 70
  let a := x.num 1125899906842624
  let b := a.2.num 4000
  let c := hashR b.2
  if c.2.endE = 0 ∧ (⟨a.1, b.1, c.1⟩ : Fz).may then some ⟨a.1, b.1, c.1⟩ else none
theorem readR_iff (s : List UInt8) (f : Fz) : readR s = some f ↔ f.may ∧ f.root.length = 32 ∧ s = f.bytes := by
  constructor
  · intro h
    unfold readR at h
    simp only at h
    split at h
    · rename_i hc
      injection h with h
      obtain ⟨he, hm⟩ := hc
      rw [h] at hm
      obtain ⟨s1, l1⟩ := end_ok _ he
      obtain ⟨s2, l2, b2⟩ := hashR_sound _ s1
      obtain ⟨s3, _⟩ := num_sound _ _ s2
      obtain ⟨s4, _⟩ := num_sound _ _ s3
      obtain ⟨b3, _⟩ := num_back _ _ s2
      obtain ⟨b4, _⟩ := num_back _ _ s3
      have b5 := begin_sound s 70 s4
      rw [l1, List.append_nil] at b2
      rw [b2] at b3
      rw [b3] at b4
      rw [b4] at b5
      subst h
      refine ⟨hm, l2, ?_⟩
      obtain ⟨m1, m2, m3, m4⟩ := hm
      unfold bytes
      simp only at m1 m2 m3 m4 ⊢
      rw [u64_nat _ (by omega) (by omega), u64_nat _ (by omega) (by omega)]
      exact b5
    · cases h
  · rintro ⟨hm, hl, rfl⟩
    have hm' := hm
    obtain ⟨m1, m2, m3, m4⟩ := hm'
    have e1 := u64_id f.win (by omega) (by omega)
    have e2 := u64_id f.cnt (by omega) (by omega)
    have hh := hashR_put f.root hl []
    rw [List.append_nil] at hh
    unfold readR bytes
    simp only [begin_put, num_put (u64 f.win) (u64_lt _) _ 1125899906842624 (by omega), num_put (u64 f.cnt) (u64_lt _) _ 4000 (by omega), hh, e1, e2]
    rw [if_pos ⟨end_nil, hm⟩]
theorem readR_eq (s : List UInt8) : readR s = read s := by
  cases h : read s with
  | some f => exact (readR_iff s f).2 ((read_iff s f).1 h)
  | none =>
    cases h2 : readR s with
    | none => rfl
    | some f => rw [(read_iff s f).2 ((readR_iff s f).1 h2)] at h; cases h
theorem read_bytes (f : Fz) (hm : f.may) (h : f.root.length = 32) : read f.bytes = some f := (read_iff _ _).2 ⟨hm, h, rfl⟩
theorem bytes_length (f : Fz) (h : f.root.length = 32) : f.bytes.length ≤ 70 := by
  have h1 := put_length (u64 f.win)
  have h2 := need_le (u64 f.win)
  have h3 := put_length (u64 f.cnt)
  have h4 := need_le (u64 f.cnt)
  have h5 := put_length f.root.length
  have h6 := need_le f.root.length
  unfold bytes text
  simp only [List.length_cons, List.length_append]
  omega
theorem bytes_one (a b : Fz) (ha : a.may) (hb : b.may) (la : a.root.length = 32) (lb : b.root.length = 32) (h : a.bytes = b.bytes) : a = b := by
  have h1 := read_bytes a ha la
  rw [h, read_bytes b hb lb] at h1
  injection h1 with h1
  exact h1.symm
end Fz

/-! ### Heads -/
structure Hd where
  size : Int
  root : List UInt8
  clock : Int
  mac : List UInt8
namespace Hd
def may (h : Hd) : Prop := 0 ≤ h.size ∧ h.size ≤ 1099511627776 ∧ 0 ≤ h.clock ∧ h.clock ≤ 1125899906842624
instance (h : Hd) : Decidable h.may := by unfold may; infer_instance
def says (h : Hd) : List UInt8 := 72 :: (put (u64 h.size) ++ (text h.root ++ put (u64 h.clock)))
def bytes (h : Hd) : List UInt8 := h.says ++ text h.mac
def parse (x : Sc) : Hd × Sc :=
  let a := x.num 1099511627776
  let b := a.2.text 32
  let c := b.2.num 1125899906842624
  let d := c.2.text 32
  (⟨a.1, pad32 b.1, c.1, pad32 d.1⟩, d.2)
theorem bytes_eq (h : Hd) : h.bytes = 72 :: (put (u64 h.size) ++ (text h.root ++ (put (u64 h.clock) ++ text h.mac))) := by
  unfold bytes says
  simp [List.append_assoc]
theorem parse_put (h : Hd) (hm : h.may) (h1 : h.root.length = 32) (h2 : h.mac.length = 32) (r : List UInt8) : parse ⟨put (u64 h.size) ++ (text h.root ++ (put (u64 h.clock) ++ (text h.mac ++ r))), false⟩ = (h, ⟨r, false⟩) := by
  obtain ⟨m1, m2, m3, m4⟩ := hm
  have e1 := u64_id h.size (by omega) (by omega)
  have e2 := u64_id h.clock (by omega) (by omega)
  unfold parse
  simp only [num_put (u64 h.size) (u64_lt _) _ 1099511627776 (by omega), text_put h.root (by omega) _ 32 (by omega), num_put (u64 h.clock) (u64_lt _) _ 1125899906842624 (by omega), text_put h.mac (by omega) r 32 (by omega), pad32_id h.root h1, pad32_id h.mac h2, e1, e2]
def read (s : List UInt8) : Option Hd := match s with
  | 72 :: r => if (parse ⟨r, false⟩).1.may ∧ (parse ⟨r, false⟩).1.bytes = s then some (parse ⟨r, false⟩).1 else none
  | _ => none
theorem read_iff (s : List UInt8) (f : Hd) : read s = some f ↔ f.may ∧ f.root.length = 32 ∧ f.mac.length = 32 ∧ s = f.bytes := by
  constructor
  · intro h
    unfold read at h
    split at h
    · split at h
      · rename_i hc
        injection h with h
        subst h
        exact ⟨hc.1, pad32_length _, pad32_length _, hc.2.symm⟩
      · cases h
    · cases h
  · rintro ⟨hm, hl, hl2, rfl⟩
    have hp := parse_put f hm hl hl2 []
    rw [List.append_nil] at hp
    rw [bytes_eq]
    unfold read
    simp only [hp]
    rw [if_pos ⟨hm, bytes_eq f⟩]
def readR (s : List UInt8) : Option Hd :=
  let x := begin_ s 72
  let a := x.num 1099511627776
  let b := hashR a.2
  let c := b.2.num 1125899906842624
  let d := hashR c.2
  if d.2.endE = 0 then some ⟨a.1, b.1, c.1, d.1⟩ else none
theorem readR_iff (s : List UInt8) (f : Hd) : readR s = some f ↔ f.may ∧ f.root.length = 32 ∧ f.mac.length = 32 ∧ s = f.bytes := by
  constructor
  · intro h
    unfold readR at h
    simp only at h
    split at h
    · rename_i he
      injection h with h
      obtain ⟨s1, l1⟩ := end_ok _ he
      obtain ⟨s2, l2, b2⟩ := hashR_sound _ s1
      obtain ⟨s3, _⟩ := num_sound _ _ s2
      obtain ⟨b3, _⟩ := num_back _ _ s2
      obtain ⟨s4, l4, b4⟩ := hashR_sound _ s3
      obtain ⟨s5, _⟩ := num_sound _ _ s4
      obtain ⟨b5, _⟩ := num_back _ _ s4
      have b6 := begin_sound s 72 s5
      have n1 := num_nonneg (begin_ s 72) 1099511627776
      have n2 := num_le (begin_ s 72) 1099511627776 (by omega)
      have n3 := num_nonneg (hashR ((begin_ s 72).num 1099511627776).2).2 1125899906842624
      have n4 := num_le (hashR ((begin_ s 72).num 1099511627776).2).2 1125899906842624 (by omega)
      rw [l1, List.append_nil] at b2
      rw [b2] at b3
      rw [b3] at b4
      rw [b4] at b5
      rw [b5] at b6
      subst h
      refine ⟨⟨n1, n2, n3, n4⟩, l4, l2, ?_⟩
      rw [bytes_eq]
      simp only
      rw [u64_nat _ (by omega) (by omega), u64_nat _ (by omega) (by omega)]
      exact b6
    · cases h
  · rintro ⟨hm, hl, hl2, rfl⟩
    have hm' := hm
    obtain ⟨m1, m2, m3, m4⟩ := hm'
    have e1 := u64_id f.size (by omega) (by omega)
    have e2 := u64_id f.clock (by omega) (by omega)
    have hh := hashR_put f.mac hl2 []
    rw [List.append_nil] at hh
    rw [bytes_eq]
    unfold readR
    simp only [begin_put, num_put (u64 f.size) (u64_lt _) _ 1099511627776 (by omega), hashR_put f.root hl, num_put (u64 f.clock) (u64_lt _) _ 1125899906842624 (by omega), hh, e1, e2]
    rw [if_pos end_nil]
theorem readR_eq (s : List UInt8) : readR s = read s := by
  cases h : read s with
  | some f => exact (readR_iff s f).2 ((read_iff s f).1 h)
  | none =>
    cases h2 : readR s with
    | none => rfl
    | some f => rw [(read_iff s f).2 ((readR_iff s f).1 h2)] at h; cases h
theorem read_bytes (f : Hd) (hm : f.may) (h : f.root.length = 32) (h2 : f.mac.length = 32) : read f.bytes = some f := (read_iff _ _).2 ⟨hm, h, h2, rfl⟩
theorem bytes_one (a b : Hd) (ha : a.may) (hb : b.may) (la : a.root.length = 32) (lb : b.root.length = 32) (la2 : a.mac.length = 32) (lb2 : b.mac.length = 32) (h : a.bytes = b.bytes) : a = b := by
  have h1 := read_bytes a ha la la2
  rw [h, read_bytes b hb lb lb2] at h1
  injection h1 with h1
  exact h1.symm
end Hd

/-! ### Stones -/
structure St where
  fz : Fz
  at_ : Int
  mac : List UInt8
namespace St
def may (t : St) : Prop := t.fz.may ∧ 0 ≤ t.at_ ∧ t.at_ ≤ 1125899906842624
instance (t : St) : Decidable t.may := by unfold may; infer_instance
def says (t : St) : List UInt8 := 84 :: (text t.fz.bytes ++ put (u64 t.at_))
def bytes (t : St) : List UInt8 := t.says ++ text t.mac
theorem bytes_eq (t : St) : t.bytes = 84 :: (text t.fz.bytes ++ (put (u64 t.at_) ++ text t.mac)) := by
  unfold bytes says
  simp [List.append_assoc]
def zeroF : Fz := ⟨0, 0, List.replicate 32 0⟩
theorem zero_may : ¬ zeroF.may := by unfold zeroF Fz.may; simp
def parse (x : Sc) : St × Sc :=
  let a := x.text 200
  let b := a.2.num 1125899906842624
  let c := b.2.text 32
  (⟨(Fz.read a.1).getD zeroF, b.1, pad32 c.1⟩, c.2)
theorem parse_put (t : St) (hm : t.may) (h1 : t.fz.root.length = 32) (h2 : t.mac.length = 32) (r : List UInt8) : parse ⟨text t.fz.bytes ++ (put (u64 t.at_) ++ (text t.mac ++ r)), false⟩ = (t, ⟨r, false⟩) := by
  obtain ⟨m1, m2, m3⟩ := hm
  have e1 := u64_id t.at_ (by omega) (by omega)
  have hb := Fz.bytes_length t.fz h1
  unfold parse
  simp only [text_put t.fz.bytes (by omega) _ 200 (by omega), num_put (u64 t.at_) (u64_lt _) _ 1125899906842624 (by omega), text_put t.mac (by omega) r 32 (by omega), pad32_id t.mac h2, e1, Fz.read_bytes t.fz m1 h1, Option.getD_some]
def read (s : List UInt8) : Option St := match s with
  | 84 :: r => if (parse ⟨r, false⟩).1.may ∧ (parse ⟨r, false⟩).1.bytes = s then some (parse ⟨r, false⟩).1 else none
  | _ => none
theorem parse_root (x : Sc) : (parse x).1.fz.root.length = 32 := by
  unfold parse
  simp only
  cases h : Fz.read (x.text 200).1 with
  | none => rfl
  | some f => exact ((Fz.read_iff _ f).1 h).2.1
theorem read_iff (s : List UInt8) (t : St) : read s = some t ↔ t.may ∧ t.fz.root.length = 32 ∧ t.mac.length = 32 ∧ s = t.bytes := by
  constructor
  · intro h
    unfold read at h
    split at h
    · split at h
      · rename_i hc
        injection h with h
        subst h
        exact ⟨hc.1, parse_root _, pad32_length _, hc.2.symm⟩
      · cases h
    · cases h
  · rintro ⟨hm, hl, hl2, rfl⟩
    have hp := parse_put t hm hl hl2 []
    rw [List.append_nil] at hp
    rw [bytes_eq]
    unfold read
    simp only [hp]
    exact if_pos ⟨hm, bytes_eq t⟩
def readR (s : List UInt8) : Option St :=
  let x := begin_ s 84
  let a := x.text 200
  let b := a.2.num 1125899906842624
  let c := hashR b.2
  match Fz.readR a.1 with
  | some f => if c.2.endE = 0 then some ⟨f, b.1, c.1⟩ else none
  | none => none
theorem readR_iff (s : List UInt8) (t : St) : readR s = some t ↔ t.may ∧ t.fz.root.length = 32 ∧ t.mac.length = 32 ∧ s = t.bytes := by
  constructor
  · intro h
    unfold readR at h
    simp only at h
    split at h
    · rename_i f hf
      split at h
      · rename_i he
        injection h with h
        obtain ⟨s1, l1⟩ := end_ok _ he
        obtain ⟨s2, l2, b2⟩ := hashR_sound _ s1
        obtain ⟨s3, _⟩ := num_sound _ _ s2
        obtain ⟨b3, _⟩ := num_back _ _ s2
        obtain ⟨s4, _⟩ := text_sound _ _ s3
        have b4 := text_back _ _ s3
        have b5 := begin_sound s 84 s4
        have n1 := num_nonneg ((begin_ s 84).text 200).2 1125899906842624
        have n2 := num_le ((begin_ s 84).text 200).2 1125899906842624 (by omega)
        obtain ⟨f1, f2, f3⟩ := (Fz.readR_iff _ f).1 hf
        rw [l1, List.append_nil] at b2
        rw [b2] at b3
        rw [b3] at b4
        rw [b4, f3] at b5
        subst h
        refine ⟨⟨f1, n1, n2⟩, f2, l2, ?_⟩
        rw [bytes_eq]
        simp only
        rw [u64_nat _ (by omega) (by omega)]
        exact b5
      · cases h
    · cases h
  · rintro ⟨hm, hl, hl2, rfl⟩
    obtain ⟨m1, m2, m3⟩ := hm
    have e1 := u64_id t.at_ (by omega) (by omega)
    have hb := Fz.bytes_length t.fz hl
    have hh := hashR_put t.mac hl2 []
    rw [List.append_nil] at hh
    have hf := (Fz.readR_iff t.fz.bytes t.fz).2 ⟨m1, hl, rfl⟩
    rw [bytes_eq]
    unfold readR
    simp only [begin_put, text_put t.fz.bytes (by omega) _ 200 (by omega), num_put (u64 t.at_) (u64_lt _) _ 1125899906842624 (by omega), hh, e1, hf]
    rw [if_pos end_nil]
theorem readR_eq (s : List UInt8) : readR s = read s := by
  cases h : read s with
  | some f => exact (readR_iff s f).2 ((read_iff s f).1 h)
  | none =>
    cases h2 : readR s with
    | none => rfl
    | some f => rw [(read_iff s f).2 ((readR_iff s f).1 h2)] at h; cases h
theorem read_bytes (t : St) (hm : t.may) (h : t.fz.root.length = 32) (h2 : t.mac.length = 32) : read t.bytes = some t := (read_iff _ _).2 ⟨hm, h, h2, rfl⟩
theorem bytes_one (a b : St) (ha : a.may) (hb : b.may) (la : a.fz.root.length = 32) (lb : b.fz.root.length = 32) (la2 : a.mac.length = 32) (lb2 : b.mac.length = 32) (h : a.bytes = b.bytes) : a = b := by
  have h1 := read_bytes a ha la la2
  rw [h, read_bytes b hb lb lb2] at h1
  injection h1 with h1
  exact h1.symm
end St

/-! ### Kinds -/
theorem fz_hd (f : Fz) : Hd.read f.bytes = none := rfl
theorem fz_st (f : Fz) : St.read f.bytes = none := rfl
theorem hd_fz (h : Hd) : Fz.read h.bytes = none := rfl
theorem hd_st (h : Hd) : St.read h.bytes = none := rfl
theorem st_fz (t : St) : Fz.read t.bytes = none := rfl
theorem st_hd (t : St) : Hd.read t.bytes = none := rfl
theorem fz_ne_hd (f : Fz) (h : Hd) : f.bytes ≠ h.bytes := fun e => by
  have : (70 : UInt8) = 72 := (List.cons.inj e).1
  cases this
theorem fz_ne_st (f : Fz) (t : St) : f.bytes ≠ t.bytes := fun e => by
  have : (70 : UInt8) = 84 := (List.cons.inj e).1
  cases this
theorem hd_ne_st (h : Hd) (t : St) : h.bytes ≠ t.bytes := fun e => by
  have : (72 : UInt8) = 84 := (List.cons.inj e).1
  cases this

end Seal
end Go.Proofs.YtcgnjdkennkheaaDoor
