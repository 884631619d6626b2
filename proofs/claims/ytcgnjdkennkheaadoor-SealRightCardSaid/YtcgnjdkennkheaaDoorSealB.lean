/-
  Freezes, heads and stones built out of parts.
-/
import Derived.Test.YtcgnjdkennkheaaDoorSeal1
set_option linter.unusedVariables false
set_option maxRecDepth 100000
set_option linter.unusedSimpArgs false
namespace Go.Proofs.YtcgnjdkennkheaaDoor
open Go.RowKit
open Seal (Fz Hd St)

theorem foldS : ∀ (l pre rest post : List Value), rest.length = l.length → ∀ off k, off + k = pre.length → List.foldl (fun (cs : Array Value) (x : Value × Nat) => cs.setIfInBounds (off + x.2) x.1) (pre ++ (rest ++ post)).toArray (l.zipIdx k) = (pre ++ (l ++ post)).toArray
  | [], pre, rest, post, h, off, k, hk => by
    obtain rfl : rest = [] := List.eq_nil_of_length_eq_zero h
    rfl
  | v :: l, pre, [], post, h, off, k, hk => by simp at h
  | v :: l, pre, r :: rest, post, h, off, k, hk => by
    have ih := foldS l (pre ++ [v]) rest post (by simpa using h) off (k + 1) (by simp; omega)
    simp only [List.zipIdx_cons, List.foldl_cons]
    have e : (pre ++ (r :: rest ++ post)).toArray.setIfInBounds (off + k) v = ((pre ++ [v]) ++ (rest ++ post)).toArray := by
      rw [hk]
      simp [List.set_append_right]
    rw [e, ih]
    simp
theorem fill_one {place : Nat → Option (Nat × Nat)} {i off size : Nat} (hp : place i = some (off, size)) (v : Value) (pre old post : List Value) (ho : off = pre.length) (hv : v.cells.size = size) (hl : old.length = size) (ps : List (Nat × Value)) :
    Instr.fill place (pre ++ (old ++ post)).toArray ((i, v) :: ps) = Instr.fill place (pre ++ (v.cells.toList ++ post)).toArray ps := by
  subst ho hv
  conv => lhs; unfold Instr.fill
  rw [hp]
  simp only
  rw [if_neg (by simp; omega)]
  congr 1
  rw [← foldS v.cells.toList pre old post (by rw [hl]; simp) pre.length 0 (by omega), ← Array.foldl_toList]
  simp
theorem built_of {P : Program} {t : TypeId} {fs : Array Field} {z : Value} (hu : P.underlying t = some (.struct fs)) (hz : (P.info? t).map (·.zero) = some (some z)) {pl : List (Nat × Nat)} (hp : fs.toList.mapM (fun f => (P.info? f.type).map fun i => (f.offset, i.size)) = some pl) (ps : List (Nat × Value)) :
    P.built t ps = Instr.fill (pl.toArray[·]?) z.cells ps := by
  cases hi : P.info? t with
  | none => rw [hi] at hz; cases hz
  | some it =>
    rw [hi] at hz
    simp only [Option.map_some, Option.some.injEq] at hz
    unfold Program.built
    simp only [hi, hu, hz, hp]
theorem zero_fz : (Tryd.prog.info? 27).map (·.zero) = some (some (Fz.v ⟨0, 0, List.replicate 32 0⟩)) := by kernel_rfl
theorem zero_hd : (Tryd.prog.info? 25).map (·.zero) = some (some (Hd.v ⟨0, List.replicate 32 0, 0, List.replicate 32 0⟩)) := by kernel_rfl
theorem zero_st : (Tryd.prog.info? 29).map (·.zero) = some (some (St.v ⟨⟨0, 0, List.replicate 32 0⟩, 0, List.replicate 32 0⟩)) := by kernel_rfl
theorem built_fz1 (a : Int) : Tryd.prog.built 27 [(0, .int .i64 a)] = some (Fz.cells ⟨a, 0, List.replicate 32 0⟩).toArray := by
  rw [built_of Tryd.underlying27 zero_fz (pl := [(0, 1), (1, 1), (2, 32)]) (by kernel_rfl)]
  exact fill_one (place := ([(0, 1), (1, 1), (2, 32)].toArray[·]?)) (i := 0) (off := 0) (size := 1) rfl (.int .i64 a) [] [.int .i64 0] ([.int .i64 0] ++ (hcells (List.replicate 32 0) ++ [])) rfl rfl rfl []
theorem built_fz2 (a b : Int) : Tryd.prog.built 27 [(0, .int .i64 a), (1, .int .i64 b)] = some (Fz.cells ⟨a, b, List.replicate 32 0⟩).toArray := by
  rw [built_of Tryd.underlying27 zero_fz (pl := [(0, 1), (1, 1), (2, 32)]) (by kernel_rfl)]
  have h1 := fill_one (place := ([(0, 1), (1, 1), (2, 32)].toArray[·]?)) (i := 0) (off := 0) (size := 1) rfl (.int .i64 a) [] [.int .i64 0] ([.int .i64 0] ++ (hcells (List.replicate 32 0) ++ [])) rfl rfl rfl [(1, .int .i64 b)]
  refine h1.trans ?_
  exact fill_one (i := 1) (off := 1) (size := 1) rfl (.int .i64 b) [.int .i64 a] [.int .i64 0] (hcells (List.replicate 32 0) ++ []) rfl rfl rfl []
theorem built_hd1 (a : Int) : Tryd.prog.built 25 [(0, .int .i64 a)] = some (Hd.cells ⟨a, List.replicate 32 0, 0, List.replicate 32 0⟩).toArray := by
  rw [built_of Tryd.underlying25 zero_hd (pl := [(0, 1), (1, 32), (33, 1), (34, 32)]) (by kernel_rfl)]
  exact fill_one (place := ([(0, 1), (1, 32), (33, 1), (34, 32)].toArray[·]?)) (i := 0) (off := 0) (size := 1) rfl (.int .i64 a) [] [.int .i64 0] (hcells (List.replicate 32 0) ++ ([.int .i64 0] ++ (hcells (List.replicate 32 0) ++ []))) rfl rfl rfl []
theorem built_hd3 (a : Int) (r : List UInt8) (hr : r.length = 32) (c : Int) : Tryd.prog.built 25 [(0, .int .i64 a), (1, sumV r), (2, .int .i64 c)] = some (Hd.cells ⟨a, r, c, List.replicate 32 0⟩).toArray := by
  rw [built_of Tryd.underlying25 zero_hd (pl := [(0, 1), (1, 32), (33, 1), (34, 32)]) (by kernel_rfl)]
  have h1 := fill_one (place := ([(0, 1), (1, 32), (33, 1), (34, 32)].toArray[·]?)) (i := 0) (off := 0) (size := 1) rfl (.int .i64 a) [] [.int .i64 0] (hcells (List.replicate 32 0) ++ ([.int .i64 0] ++ (hcells (List.replicate 32 0) ++ []))) rfl rfl rfl [(1, sumV r), (2, .int .i64 c)]
  refine h1.trans ?_
  have h2 := fill_one (place := ([(0, 1), (1, 32), (33, 1), (34, 32)].toArray[·]?)) (i := 1) (off := 1) (size := 32) rfl (sumV r) [.int .i64 a] (hcells (List.replicate 32 0)) ([.int .i64 0] ++ (hcells (List.replicate 32 0) ++ [])) rfl (by simp [sumV, Value.cells, hr]) (by simp [hcells]) [(2, .int .i64 c)]
  refine h2.trans ?_
  have h3 := fill_one (place := ([(0, 1), (1, 32), (33, 1), (34, 32)].toArray[·]?)) (i := 2) (off := 33) (size := 1) rfl (.int .i64 c) ([.int .i64 a] ++ hcells r) [.int .i64 0] (hcells (List.replicate 32 0) ++ []) (by simp [hcells_length, hr]) rfl rfl []
  have e1 : ([Value.int .i64 a] ++ ((sumV r).cells.toList ++ ([.int .i64 0] ++ (hcells (List.replicate 32 0) ++ [])))) = ([Value.int .i64 a] ++ hcells r) ++ ([.int .i64 0] ++ (hcells (List.replicate 32 0) ++ [])) := by simp [sumV_cells, Value.cells]
  rw [e1, h3]
  show some _ = some _
  (try simp [Hd.cells, Value.cells])
theorem built_st2 (f : Fz) (hf : f.root.length = 32) (c : Int) : Tryd.prog.built 29 [(0, f.v), (1, .int .i64 c)] = some (St.cells ⟨f, c, List.replicate 32 0⟩).toArray := by
  rw [built_of Tryd.underlying29 zero_st (pl := [(0, 34), (34, 1), (35, 32)]) (by kernel_rfl)]
  have h1 := fill_one (place := ([(0, 34), (34, 1), (35, 32)].toArray[·]?)) (i := 0) (off := 0) (size := 34) rfl f.v [] (Fz.cells ⟨0, 0, List.replicate 32 0⟩) ([.int .i64 0] ++ (hcells (List.replicate 32 0) ++ [])) rfl (by simp [Fz.v, Value.cells, Fz.cells_length _ hf]) rfl [(1, .int .i64 c)]
  rw [List.nil_append, List.nil_append] at h1
  refine h1.trans ?_
  have h3 := fill_one (place := ([(0, 34), (34, 1), (35, 32)].toArray[·]?)) (i := 1) (off := 34) (size := 1) rfl (.int .i64 c) f.cells [.int .i64 0] (hcells (List.replicate 32 0) ++ []) (by rw [Fz.cells_length _ hf]) rfl rfl []
  have e1 : (f.v.cells.toList ++ ([.int .i64 0] ++ (hcells (List.replicate 32 0) ++ []))) = f.cells ++ ([.int .i64 0] ++ (hcells (List.replicate 32 0) ++ [])) := by simp [Fz.v, Value.cells]
  rw [e1, h3]
  rfl

theorem stop_at {P : Program} {ops : Array Oper} {Q : Exit → Act → World → Prop} {o : Oper} {rest : List Oper} {a : Act} {w : World} (t : Tmp) (ho : o.dst = some t) (h : Stopped (wpList P ops Q (o :: rest) a w)) : wpList P ops Q (o :: rest) a w := h.go
theorem wpList_build_to {P : Program} {ops : Array Oper} {rest : List Oper} {o : Oper} {a : Act} {w : World} {Q : Exit → Act → World → Prop} (hg : o.guard = none) (t : TypeId) (parts : Array (Nat × Operand)) (ho : o.op = .build t parts) (vs : List (Nat × Value)) (hv : (parts.map fun (i, x) => (i, a.eval x)).toList = vs) (cells : Array Value) (hb : P.built t vs = some cells)
    (h : wpList P ops Q rest (a.put o.dst (.agg cells)) w) : wpList P ops Q (o :: rest) a w := by
  refine wpList_build hg t parts ho (by rw [hv, hb]; rfl) ?_
  rw [hv, hb]
  exact h
theorem mix_build {P : Program} {ops : Array Oper} {S : World → Prop} {T : Act → World → Prop} {o : Oper} {rest : List Oper} {a : Act} {w : World} (hl : loudOp o = false) (hw : Region.wanted o (yielded ops a.tmps) = true) (t : TypeId) (parts : Array (Nat × Operand)) (ho : o.op = .build t parts) (vs : List (Nat × Value)) (hv : (parts.map fun (i, x) => (i, a.eval x)).toList = vs) (cells : Array Value) (hb : P.built t vs = some cells)
    (h : wpMix P ops S loudOp T rest (a.put o.dst (.agg cells)) w) : wpMix P ops S loudOp T (o :: rest) a w := by
  refine mix_quiet hl hw fun K hK => ⟨.agg cells, fun w' hs => ?_, hK _ h⟩
  unfold Oper.quietAt execOp
  rw [← hv] at hb
  simp only [ho, Sem.run_bind, run_build w' t _ cells hb, Result.andThen_ok, Sem.run_pure]
  exact ⟨rfl, rfl⟩

end Go.Proofs.YtcgnjdkennkheaaDoor
